/- An abstract machine for the program's text, over any program: its steps are sound for the model. Conditions: none. -/
import Derived.Test.YtoohlpeogeeobaaEng0
namespace Go.Eng
open Go

variable {P : Program} {K : KMap} {β κ : Nat → Nat} {H : Heap} {w : World} {Fr : Nat → Prop}

theorem bytesOf_eq {t : TypeId} {i : TypeInfo} (h : P.info? t = some i) : i.bytes = P.bytesOf t := by simp [Program.bytesOf, h]

theorem sameOperand_eval {tm : Tm} {a : Act} (hf : FR K β κ H tm a.tmps) {l c : Operand} {n : Int} (h : sameOperand l c = true) (hl : a.eval l = .int .i64 n) (hl' : ev tm l = .d (.v (.int .i64 n))) : ∃ k, a.eval c = .int k n := by
  unfold sameOperand at h
  split at h
  · have := Nat.eq_of_beq_eq_true h; subst this; exact ⟨_, hl⟩
  · simp only [decide_eq_true_eq] at h; subst h
    rename_i k x k'
    simp only [Act.eval, Value.int.injEq] at hl
    exact ⟨k', by simp only [Act.eval, hl.2]⟩
  · cases h

theorem wrap_small {n : Int} (h0 : 0 ≤ n) (h1 : n ≤ 549755813888) : IntKind.i64.wrap n = n := by
  unfold IntKind.wrap
  have e1 : (2 ^ IntKind.i64.bits : Int) = 18446744073709551616 := rfl
  have e2 : (2 ^ (IntKind.i64.bits - 1) : Int) = 9223372036854775808 := rfl
  have e3 : IntKind.i64.signed = true := rfl
  simp only [e1, e2, e3, Bool.true_and, decide_eq_true_eq]
  rw [Int.emod_eq_of_lt h0 (by omega)]
  rw [if_neg (by omega)]

theorem make_sound {t nid : Nat} {dat : Bool} {l c : Operand} {tm : Tm} {a : Act} {z : AVal} {H' : Heap} (s : SR Fr K β κ H w) (hf : FR K β κ H tm a.tmps)
    (h : (plMake P t l c (ev tm l) dat nid).run H (fun v H' => some (v, H')) = some (z, H')) :
    ∃ r w', (Instr.makeSlice t (a.eval l) (a.eval c)).run P w = .ok r w' ∧ Post Fr K β κ H w z H' r w' := by
  have hl := ev_sound hf l
  unfold plMake at h
  split at h
  · rename_i e n hu hle
    rw [hle] at hl
    have hlv := hl.dv
    split at h
    · rename_i zl hzl
      obtain ⟨inf, zv, hinf, hzv, rfl⟩ := zeroLeaves_some hzl
      split at h
      · rename_i ds hds
        split at h
        · rename_i hc
          simp only [Bool.and_eq_true, decide_eq_true_eq] at hc
          obtain ⟨⟨⟨⟨hsame, hal⟩, hzlen⟩, hpos⟩, hby⟩ := hc
          have core : 0 ≤ n → n.toNat ≤ 549755813888 → ∃ cells : Array Value, (Instr.makeSlice t (a.eval l) (a.eval c)).run P w = .ok (.slice (some ⟨w.heap.size, 0, none⟩) n.toNat n.toNat) (w.alloc (.cells cells e)) ∧ Rws K (fun o => cells.toList[o]?) (P.cellsOf e) 0 (List.replicate n.toNat ds) := by
            intro hn hroom
            obtain ⟨us, h1, h2, h3⟩ := constD_cells (K := K) (β := β) (κ := κ) (H := H) hal
            obtain ⟨ds0, hds, hds'⟩ := some_of_bind hds
            have hvs := castRow_sound hds' (toDs_sound (LkOk.none (K := K) (β := β) (H := H)) _ h2 hds)
            have hdl := hvs.length
            have hul := h2.length
            obtain ⟨k, hcv⟩ := sameOperand_eval hf hsame hlv hle
            have hw : IntKind.i64.wrap n = n := wrap_small hn (by omega)
            have hbytes : inf.bytes * n ≤ 2 ^ 48 := by
              rw [bytesOf_eq hinf]
              have : P.bytesOf e * n.toNat ≤ 128 * 549755813888 := Nat.mul_le_mul hby hroom
              have e2 : ((P.bytesOf e * n.toNat : Nat) : Int) = (P.bytesOf e : Int) * n := by
                rw [Int.natCast_mul, Int.toNat_of_nonneg hn]
              generalize P.bytesOf e * n.toNat = m at this e2
              generalize (P.bytesOf e : Int) * n = q at e2 ⊢
              omega
            let cells : Array Value := (Array.range (n.toNat * P.cellsOf e)).map (us.toArray[· % us.toArray.size]!)
            have hrun : (Instr.makeSlice t (a.eval l) (a.eval c)).run P w = .ok (.slice (some ⟨w.heap.size, 0, none⟩) n.toNat n.toNat) (w.alloc (.cells cells e)) := by
              rw [hlv, hcv]
              unfold Instr.makeSlice
              simp only [Sem.run_bind, run_under hu, Result.andThen_ok, asInt, asIntOf, Sem.run_pure, typeInfo, run_program, hinf, hw]
              have hneg : ¬ (n < 0) := by omega
              have hbig : ¬ ((inf.bytes : Int) * n > 2 ^ 48) := by omega
              simp only [hneg, hbig, decide_false, Bool.or_self, Bool.false_eq_true, or_self, Int.lt_irrefl, gt_iff_lt, if_false, Sem.run_bind, run_askRoom, Result.andThen_ok, run_size hinf]
              by_cases hz0 : n.toNat * P.cellsOf e = 0
              · rw [if_pos hz0]
                simp only [Sem.run_bind, Sem.run_pure, Result.andThen_ok, run_newRow]
                have : cells = (Array.range (n.toNat * P.cellsOf e)).map ((#[] : Array Value)[· % (#[] : Array Value).size]!) := by
                  simp [cells, hz0]
                rw [this]
              · rw [if_neg hz0]
                simp only [Sem.run_bind, run_zero hinf hzv, Sem.run_pure, Result.andThen_ok, run_newRow, h1]
                rfl
            have hcl : cells.toList = (List.range (n.toNat * P.cellsOf e)).map (us.toArray[· % us.toArray.size]!) := by simp [cells]
            have hrows : Rws K (fun o => cells.toList[o]?) (P.cellsOf e) 0 (List.replicate n.toNat ds) := by
              refine .of fun i row hi => ?_
              rw [List.getElem?_replicate] at hi
              split at hi
              · rename_i hlt
                injection hi with hi; subst hi
                refine ⟨by omega, .ofVs hvs h3 fun j u hj => ?_⟩
                have hjl := (List.getElem?_eq_some_iff.1 hj).1
                rw [hcl]
                have hidx : i * P.cellsOf e + j < n.toNat * P.cellsOf e := by
                  have : (i + 1) * P.cellsOf e ≤ n.toNat * P.cellsOf e := Nat.mul_le_mul_right _ hlt
                  rw [Nat.succ_mul] at this; omega
                simp only [Nat.zero_add, List.getElem?_map, List.getElem?_range hidx, Option.map_some]
                have hsz : us.toArray.size = P.cellsOf e := by simp; omega
                rw [hsz, Nat.mul_comm, Nat.mul_add_mod, Nat.mod_eq_of_lt (by omega)]
                have := List.getElem?_eq_some_iff.1 hj
                simp only [Option.some.injEq]
                rw [getElem!_pos us.toArray j (by simp; omega)]
                simpa using this.2
              · cases hi
            exact ⟨cells, hrun, hrows⟩
          cases dat with
          | true =>
            simp only [cond_true, Plan.run, viewsOf] at h
            split at h
            · rename_i hn
              obtain ⟨hroom, h⟩ := onRoom_some h
              simp only [Option.some.injEq, Prod.mk.injEq] at h
              obtain ⟨rfl, rfl⟩ := h
              obtain ⟨cells, hrun, hrows⟩ := core hn hroom
              obtain ⟨K2, s2, e2, n2, k2, h8⟩ := s.newFixed cells.toList e
              refine ⟨_, _, hrun, K2, β, κ, s2, e2, n2, k2, .d ?_⟩
              have hrl : (List.replicate n.toNat ds).length = n.toNat := by simp
              have := V.sl (K := K2) 0 (P.cellsOf e) (List.replicate n.toNat ds) w.heap.size 0 n.toNat (by decide) (by rw [hrl]; exact Nat.le_refl _) ((hrows.mono e2.kle (fun _ _ e => e)).shift fun i _ => by simp only [Nat.zero_add]; rw [h8])
              rw [hrl] at this; exact this
            · cases h
          | false =>
          simp only [cond_false, Plan.run, viewsOf] at h
          split at h
          · rename_i hn
            obtain ⟨hroom, h⟩ := onRoom_some h
            obtain ⟨H2, hput, h⟩ := putNew_some h
            simp only [Option.some.injEq, Prod.mk.injEq] at h
            obtain ⟨rfl, rfl⟩ := h
            obtain ⟨cells, hrun, hrows⟩ := core hn hroom
            have hrl : (List.replicate n.toNat ds).length = n.toNat := by simp
            obtain ⟨s1, e1, k1⟩ := s.new hput 0 (.cells cells e) (fun hE => .inr ⟨cells.toList, ⟨e, by rw [upd_same]; exact alloc_new _⟩, hrows, fun o => by rw [upd_same]; exact s.noneOf (Nat.le_refl _) o⟩)
            refine ⟨_, _, hrun, K, _, _, s1, e1, .refl _ _, k1, ?_⟩
            have hcur : curOf H2 nid = some (P.cellsOf e, 0, n.toNat) := by rw [curOf_eq, hput.self]; simp [curB]
            refine .hs hcur (Nat.le_refl _) ⟨_, _, rfl, Nat.le_refl _, fun _ => rfl⟩ fun _ => ⟨by omega, fun _ => ⟨by rw [upd_same], by simp⟩⟩
          · cases h
        · cases h
      · cases h
    · cases h
  · cases h

/-- What lies in memory behind what is looked at. -/
def LkMem (K : KMap) (β : Nat → Nat) (H : Heap) (w : World) (lk : Nat → BView) : Prop :=
  ∀ id sz ver rows, lk id = .rows sz ver rows → curOf H id = some (sz, ver, rows.length) ∧
    (rows = [] ∨ ∃ g : Nat → Option Value, (∀ o v, g o = some v → w.cell? ⟨β id, o, none⟩ = some v) ∧ Rws K g sz 0 rows)

theorem SR.view (s : SR Fr K β κ H w) {id sz ver : Nat} {b : ABlk} {rows : Rows} (hb : H[id]? = some b) (hv : b.view = .rows sz ver rows) :
    curOf H id = some (sz, ver, rows.length) ∧ (rows = [] ∨ ∃ g : Nat → Option Value, (∀ o v, g o = some v → w.cell? ⟨β id, o, none⟩ = some v) ∧ Rws K g sz 0 rows) := by
  refine ⟨by rw [curOf_eq, hb]; exact view_rows hv, ?_⟩
  have hrel := s.blk id b hb
  cases b with
  | gone => simp [ABlk.view] at hv
  | cel => simp [ABlk.view] at hv
  | arr =>
    simp only [ABlk.view, BView.rows.injEq] at hv; obtain ⟨rfl, rfl, rfl⟩ := hv
    rcases hrel with h | ⟨vs, h1, h2, _⟩
    · exact .inl h
    · exact .inr ⟨fun o => vs[o]?, fun o v ho => by rw [h1.cell]; exact ho, h2⟩
  | vec =>
    simp only [ABlk.view, BView.rows.injEq] at hv; obtain ⟨rfl, rfl, rfl⟩ := hv
    rcases hrel with h | ⟨vs, h1, h2, _⟩
    · exact .inl h
    · exact .inr ⟨fun o => vs[o]?, fun o v ho => by rw [h1.cell]; exact ho, h2⟩
  | frz =>
    simp only [ABlk.view, BView.rows.injEq] at hv; obtain ⟨rfl, rfl, rfl⟩ := hv
    rcases hrel with h | h
    · exact .inl h
    · exact .inr ⟨K (β id), fun o v ho => s.cell ho, h⟩

theorem lkMem_look (s : SR Fr K β κ H w) {ids : List Nat} {bs : List ABlk} (hb : Blks H ids bs) : LkMem K β H w (look ids (bs.map ABlk.view)) := by
  intro id sz ver rows h
  obtain ⟨_, b, h2, h3⟩ := look_some hb h (by simp)
  exact s.view h2 h3

/-- What rows hold, as a list of cells. -/
theorem Rws.vals {g : Nat → Option Value} {sz o : Nat} {rows : Rows} (h : Rws K g sz o rows) : ∃ us : List Value, us.length = rows.length * sz ∧ (∀ i u, us[i]? = some u → g (o + i) = some u ∧ leafV u = true) ∧ Rws K (fun i => us[i]?) sz 0 rows := by
  induction rows generalizing o with
  | nil => exact ⟨[], by simp, by simp, .nil _ _ _⟩
  | cons row rows ih =>
    cases h with
    | cons hl hc hr =>
      obtain ⟨us, h1, h2, h3⟩ := ih hr
      obtain ⟨ws, h4, h5⟩ := hc.vals
      have hwl := h4.length
      refine ⟨ws ++ us, by simp [h1, hwl, hl, Nat.succ_mul]; omega, fun i u hi => ?_, .cons hl ?_ (h3.shift fun i hi => ?_)⟩
      · rw [List.getElem?_append] at hi
        split at hi
        · exact h5 i u hi
        · have := h2 _ u hi
          exact ⟨by rw [← this.1]; congr 1; omega, this.2⟩
      · refine .ofVs h4 (fun u hu => ?_) fun i u hi => ?_
        · obtain ⟨i, hi⟩ := List.getElem?_of_mem hu; exact (h5 i u hi).2
        · have := (List.getElem?_eq_some_iff.1 hi).1
          simp only [Nat.zero_add]; rw [List.getElem?_append_left this]; exact hi
      · simp only [Nat.zero_add]
        rw [List.getElem?_append_right (by omega)]
        congr 1; omega

/-- What is appended: a slice, whose cells are these, also in a world with the same memory. -/
theorem appRows_sound {lk : Nat → BView} (hl : LkMem K β H w lk) (hK : ∀ bl o v, K bl o = some v → w.cell? ⟨bl, o, none⟩ = some v) {x : AVal} {v : Value} {sz : Nat} {ys : Rows} (hx : RA K β κ H x v) (h : appRows lk x sz some = some ys) :
    ∃ ad n c us, v = .slice ad n c ∧ n = ys.length ∧ us.length = n * sz ∧ (∀ u ∈ us, leafV u = true) ∧ Rws K (fun o => us[o]?) sz 0 ys ∧
      ∀ w2 : World, w2.heap = w.heap → (Builtin.firstCells sz n v).run P w2 = .ok ⟨us⟩ w2 := by
  have fin : ∀ {bl o n c : Nat} {g : Nat → Option Value}, Rws K g sz o ys → n = ys.length → (∀ i v, g i = some v → w.cell? ⟨bl, i, none⟩ = some v) → v = .slice (some ⟨bl, o, none⟩) n c →
      ∃ ad n c us, v = .slice ad n c ∧ n = ys.length ∧ us.length = n * sz ∧ (∀ u ∈ us, leafV u = true) ∧ Rws K (fun o => us[o]?) sz 0 ys ∧
      ∀ w2 : World, w2.heap = w.heap → (Builtin.firstCells sz n v).run P w2 = .ok ⟨us⟩ w2 := by
    intro bl o n c g hr hn hg hv
    obtain ⟨us, h1, h2, h3⟩ := hr.vals
    refine ⟨_, n, c, us, hv, hn, by rw [h1, hn], fun u hu => ?_, h3, fun w2 hw => ?_⟩
    · obtain ⟨i, hi⟩ := List.getElem?_of_mem hu; exact (h2 i u hi).2
    · subst hv
      simp only [Builtin.firstCells]
      rw [hn, ← h1]
      exact run_loadCells_list w2 _ us fun j u hj => by
        rw [addr_add]
        have := hg _ _ (h2 j u hj).1
        simpa only [World.cell?, hw] using this
  have emp : ys = [] → (∃ ad c, v = .slice ad 0 c) → ∃ ad n c us, v = .slice ad n c ∧ n = ys.length ∧ us.length = n * sz ∧ (∀ u ∈ us, leafV u = true) ∧ Rws K (fun o => us[o]?) sz 0 ys ∧
      ∀ w2 : World, w2.heap = w.heap → (Builtin.firstCells sz n v).run P w2 = .ok ⟨us⟩ w2 := by
    rintro rfl ⟨ad, c, rfl⟩
    refine ⟨ad, 0, c, [], rfl, rfl, by simp, by simp, .nil _ _ _, fun w2 _ => ?_⟩
    cases ad with
    | none => rfl
    | some ad => simp only [Builtin.firstCells, Nat.zero_mul]; rfl
  unfold appRows at h
  split at h
  · split at h
    · rename_i hs; subst hs
      injection h with h; subst h
      cases hx with
      | d hv => cases hv with
        | nil => exact emp rfl ⟨_, _, rfl⟩
        | emp => exact emp rfl ⟨_, _, rfl⟩
        | sl _ _ _ bl o cap hf hc hr => exact fin hr rfl (fun i v hk => hK _ _ _ hk) rfl
    · cases h
  · injection h with h; subst h
    have := hx.dv; exact emp rfl ⟨_, _, this⟩
  · split at h
    · rename_i sz' ver' rows hlk
      cases hb : Nat.beq _ ver' with
      | false => rw [hb] at h; cases h
      | true =>
        rw [hb] at h
        simp only [cond_true] at h
        split at h
        · rename_i hs; subst hs
          injection h with h; subst h
          have hver := Nat.eq_of_beq_eq_true hb
          obtain ⟨h1, h2⟩ := hl _ _ _ _ hlk
          cases hx with
          | vh hcur hle hsl hf =>
            rw [h1] at hcur; injection hcur with hcur; injection hcur with e1 hcur; injection hcur with e2 e3
            subst e1; subst e2; subst e3
            obtain ⟨h3, h4⟩ := hf hver
            rcases h4 with ⟨hz, ad, hv⟩ | ⟨hz, hv⟩
            · exact emp (List.eq_nil_of_length_eq_zero hz) ⟨_, _, hv⟩
            · rcases h2 with rfl | ⟨g, hg, hr⟩
              · simp at hz
              · exact fin hr rfl hg hv
        · cases h
    · cases h
  · split at h
    · rename_i id ver szh off len _ sz' ver' rows hlk
      cases hb : Nat.beq ver ver' with
      | false => rw [hb] at h; cases h
      | true =>
        rw [hb] at h
        simp only [cond_true] at h
        split at h
        · rename_i hs; subst hs
          injection h with h; subst h
          have hver := Nat.eq_of_beq_eq_true hb
          obtain ⟨h1, h2⟩ := hl _ _ _ _ hlk
          cases hx with
          | hs hcur hle hsl hf =>
            rw [h1] at hcur; injection hcur with hcur; injection hcur with e1 hcur; injection hcur with e2 e3
            subst e1; subst e2; subst e3
            obtain ⟨ad, cap, rfl, hcap, ha⟩ := hsl
            obtain ⟨h3, h4⟩ := hf hver
            by_cases hz : len = 0
            · subst hz; exact emp (by simp) ⟨_, _, rfl⟩
            · obtain ⟨rfl, rfl⟩ := h4 hz
              rcases h2 with rfl | ⟨g, hg, hr⟩
              · simp at h3; omega
              · have hr2 := (hr.drop off).take len
                rw [Nat.zero_add] at hr2
                exact fin (n := len) (c := cap) hr2 (by simp; omega) hg (by rw [ha hz])
        · cases h
    · cases h
  · cases h

theorem growBy_le (n : Nat) : ∀ (r c : Nat), c ≤ n → Builtin.growBy n r c ≤ n + (n + 768) / 4
  | 0, c, h => by simp only [Builtin.growBy]; omega
  | r + 1, c, h => by
    simp only [Builtin.growBy]
    split
    · omega
    · by_cases h2 : c + (c + 768) / 4 ≤ n
      · exact growBy_le n r _ h2
      · have : ∀ r c, n ≤ c → Builtin.growBy n r c = c := by
          intro r c hc
          cases r with
          | zero => rfl
          | succ r => simp only [Builtin.growBy]; rw [if_pos hc]
        rw [this _ _ (by omega)]
        omega

theorem nextslicecap_le {n c : Nat} (h : c < n) : Builtin.nextslicecap n c ≤ 2 * n + 192 := by
  unfold Builtin.nextslicecap
  split
  · omega
  · split
    · omega
    · have := growBy_le n 4 c (by omega); omega
end Go.Eng

namespace Go.Eng
open Go

variable {P : Program} {K : KMap} {β κ : Nat → Nat} {H : Heap} {w : World} {Fr : Nat → Prop}

/-- In place. -/
theorem run_append_in {st xt e ty : TypeId} {inf : TypeInfo} (hu : P.underlying st = some (.slice e)) (hx : ∃ d, P.underlying xt = some (.slice d)) (hinf : P.info? e = some inf)
    {ad : Option Addr} {sLen sCap n : Nat} {xv : Value} {us : List Value} (hx' : ∃ b c, xv = .slice b n c) (hn : sLen + n ≤ sCap) (hf : ∀ w2 : World, w2.heap = w.heap → (Builtin.firstCells (P.cellsOf e) n xv).run P w2 = .ok ⟨us⟩ w2)
    {w' : World} (hs : ∀ bl o, ad = some ⟨bl, o, none⟩ → (storeCells ⟨bl, o + sLen * P.cellsOf e, none⟩ us).run P w = .ok () w') (hsp : ∀ a, ad = some a → us ≠ [] → a.spot = none) (hs0 : ad = none ∨ us = [] → w' = w) :
    (Builtin.append_ #[st, xt] ty #[.slice ad sLen sCap, xv]).run P w = .ok (.slice ad (sLen + n) sCap) w' := by
  obtain ⟨b, c, rfl⟩ := hx'
  obtain ⟨d, hd⟩ := hx
  unfold Builtin.append_
  simp only [List.getElem?_toArray, List.getElem?_cons_zero, List.getElem?_cons_succ, Sem.run_bind, run_under hu, run_under hd, run_size hinf, Sem.run_pure, Result.andThen_ok, Bool.false_eq_true, if_false, Builtin.lenOf, Bool.not_false, if_true]
  rw [if_pos hn]
  simp only [Sem.run_bind, hf w rfl, Result.andThen_ok]
  cases ad with
  | none =>
    have := hs0 (.inl rfl); subst this
    rfl
  | some a =>
    by_cases hus : us = []
    · have := hs0 (.inr hus); subst this; subst hus
      simp only [storeCells, Sem.run_bind, Sem.run_pure, Result.andThen_ok]
    · obtain ⟨bl, o, sp⟩ := a
      have := hsp _ rfl hus; simp at this; subst this
      simp only [Sem.run_bind, addr_add, hs bl o rfl, Result.andThen_ok, Sem.run_pure]

/-- Into a new block. -/
theorem run_append_new {st xt e ty : TypeId} {inf : TypeInfo} {z : Value} (hu : P.underlying st = some (.slice e)) (hx : ∃ d, P.underlying xt = some (.slice d)) (hinf : P.info? e = some inf) (hz : inf.zero = some z)
    (hb : P.bytesOf e ≤ 128) (hb0 : 0 < P.bytesOf e)
    {ad : Option Addr} {sLen sCap n : Nat} {xv : Value} {old us : List Value} (hx' : ∃ b c, xv = .slice b n c) (hn : sCap < sLen + n) (hroom : sLen + n ≤ 549755813888)
    (hf : ∀ w2 : World, w2.heap = w.heap → (Builtin.firstCells (P.cellsOf e) n xv).run P w2 = .ok ⟨us⟩ w2)
    (ho : ∀ w2 : World, w2.heap = w.heap → (Builtin.firstCells (P.cellsOf e) sLen (.slice ad sLen sCap)).run P w2 = .ok ⟨old⟩ w2) :
    ∃ cap rest, sLen + n ≤ cap ∧ (Builtin.append_ #[st, xt] ty #[.slice ad sLen sCap, xv]).run P w = .ok (.slice (some ⟨w.heap.size, 0, none⟩) (sLen + n) cap) (w.drew.alloc (.cells ⟨old ++ us ++ rest⟩ e)) ∧
      rest.length = (cap - (sLen + n)) * z.cells.size := by
  obtain ⟨b, c, rfl⟩ := hx'
  obtain ⟨d, hd⟩ := hx
  have hnx := nextslicecap_le hn
  have hmul : Builtin.nextslicecap (sLen + n) sCap * P.bytesOf e ≤ (2 * 549755813888 + 192) * 128 := Nat.mul_le_mul (by omega) hb
  refine ⟨(Question.appendCap (sLen + n) sCap e).cut (w.tape w.drawn (.appendCap (sLen + n) sCap e)), (Builtin.zeroCells z.cells ((Question.appendCap (sLen + n) sCap e).cut (w.tape w.drawn (.appendCap (sLen + n) sCap e)) - (sLen + n))).toList, ?_, ?_, ?_⟩
  · simp only [Question.cut]; omega
  · unfold Builtin.append_
    simp only [List.getElem?_toArray, List.getElem?_cons_zero, List.getElem?_cons_succ, Sem.run_bind, run_under hu, run_under hd, run_size hinf, Sem.run_pure, Result.andThen_ok, Bool.false_eq_true, if_false, Builtin.lenOf, Bool.not_false, if_true]
    rw [if_neg (by omega)]
    simp only [Sem.run_bind, typeInfo, run_program, hinf, Sem.run_pure, Result.andThen_ok, bytesOf_eq hinf]
    rw [if_neg (by
      have e1 : IntKind.i64.max = 9223372036854775807 := rfl
      rw [e1]; omega)]
    simp only [Sem.run_bind, run_program, hinf, Sem.run_pure, Result.andThen_ok, bytesOf_eq hinf]
    rw [if_neg (by omega)]
    simp only [Sem.run_bind, run_choose, Question.forced, Bool.false_eq_true, if_false, Result.andThen_ok, World.drew_eq, run_askRoom, hf w.drew rfl, ho w.drew rfl, zeroValue, typeInfo, run_program, hinf, Sem.run_pure, hz, run_newRow, bytesOf_eq hinf]
    congr 2
    congr 1
    apply Array.ext'
    simp
  · simp [Builtin.zeroCells]

theorem zeroOk_some {e : TypeId} (h : zeroOk P e = true) : ∃ inf z, P.info? e = some inf ∧ inf.zero = some z ∧ z.cells.size = P.cellsOf e := by
  unfold zeroOk at h
  split at h
  · rename_i zl hz
    obtain ⟨inf, z, h1, h2, rfl⟩ := zeroLeaves_some hz
    simp only [Bool.and_eq_true, decide_eq_true_eq] at h
    obtain ⟨us, h3, h4, _⟩ := constD_cells (K := fun _ _ => none) (β := id) (κ := id) (H := []) h.1
    have := h4.length
    exact ⟨inf, z, h1, h2, by rw [h3]; simp; omega⟩
  · cases h

theorem blksOf_some {A : Type} {ids : List Nat} {g : List ABlk → Option A} {r : A} (h : blksOf H ids g = some r) :
    ∃ bs : List ABlk, bs.length = ids.length ∧ Blks H ids bs ∧ g bs = some r := by
  induction ids generalizing g with
  | nil => exact ⟨[], rfl, fun i id hi => by simp at hi, h⟩
  | cons id ids ih =>
    simp only [blksOf] at h
    split at h
    · rename_i b hb
      obtain ⟨bs, h1, h2, h3⟩ := ih h
      refine ⟨b :: bs, by simp [h1], fun i id' hi => ?_, h3⟩
      cases i with
      | zero => simp at hi; subst hi; exact ⟨b, rfl, hb⟩
      | succ i => simpa using h2 i id' (by simpa using hi)
    · cases h

/-- Blocks that are set to what they are. -/
theorem setAll_same : ∀ {ids : List Nat} {bs : List ABlk} {H : Heap}, Blks H ids bs → setAll H ids bs = H
  | [], _, _, _ => by simp [setAll]
  | id :: ids, [], H, _ => by simp [setAll]
  | id :: ids, b :: bs, H, h => by
    obtain ⟨b', h1, h2⟩ := h 0 id rfl
    simp at h1; subst h1
    have : H.set id b = H := by
      apply List.ext_getElem?; intro j; rw [get_set h2]; split
      · subst_vars; exact h2.symm
      · rfl
    simp only [setAll, this]
    exact setAll_same fun i id' hi => by simpa using h (i + 1) id' (by simpa using hi)

theorem drew_rel (s : SR Fr K β κ H w) : SR Fr K β κ H w.drew := ⟨s.wk, fun id x h => by
  have := s.blk id x h
  cases x <;> exact this, s.inj, s.nfr, s.frsz⟩

/-- A growing array has moved, or has grown where it is. -/
theorem ext_grow {id sz ver : Nat} {rows rows' : Rows} (hid : H[id]? = some (.vec sz ver rows)) (n c : Nat) : Ext K β κ H K (upd β id n) (upd κ id c) (H.set id (.vec sz (ver + 1) rows')) := by
  refine ⟨.refl _, fun j hj => ?_, fun j sz' cv m hj => ?_, fun j x sz' r' hx hx' => ?_⟩
  · obtain ⟨cs, hj⟩ := hj
    have hne : j ≠ id := by rintro rfl; rw [hid] at hj; cases hj
    exact ⟨⟨cs, by rw [get_set hid, if_neg (Ne.symm hne)]; exact hj⟩, upd_ne hne⟩
  · rw [curOf_eq] at hj
    by_cases hne : j = id
    · subst hne
      rw [hid] at hj
      simp only [Option.bind_some, curB, Option.some.injEq, Prod.mk.injEq] at hj
      obtain ⟨rfl, rfl, rfl⟩ := hj
      exact ⟨ver + 1, rows'.length, by rw [curOf_eq, get_set hid, if_pos rfl]; rfl, .inr (by omega)⟩
    · exact ⟨cv, m, by rw [curOf_eq, get_set hid, if_neg (Ne.symm hne)]; exact hj, .inl ⟨rfl, rfl, upd_ne hne, upd_ne hne⟩⟩
  · rw [get_set hid] at hx'
    split at hx'
    · cases hx'
    · rw [hx] at hx'; injection hx' with hx'; exact .inr ⟨_, hx'⟩

theorem upd_id (β : Nat → Nat) (i : Nat) : upd β i (β i) = β := by funext j; unfold upd; split <;> simp_all

theorem ext_grow' {id sz ver : Nat} {rows rows' : Rows} (hid : H[id]? = some (.vec sz ver rows)) : Ext K β κ H K β κ (H.set id (.vec sz (ver + 1) rows')) := by
  have := ext_grow (K := K) (β := β) (κ := κ) (rows' := rows') hid (β id) (κ id)
  rwa [upd_id, upd_id] at this

/-- An array becomes a longer one, in a new block. -/
theorem SR.move (s : SR Fr K β κ H w) {id sz ver c : Nat} {rows rows' : Rows} (hid : H[id]? = some (.vec sz ver rows)) (o : Obj)
    (hB : BRel K (upd β id w.heap.size) (upd κ id c) (H.set id (.vec sz (ver + 1) rows')) (w.alloc o) id (.vec sz (ver + 1) rows')) :
    SR Fr K (upd β id w.heap.size) (upd κ id c) (H.set id (.vec sz (ver + 1) rows')) (w.alloc o) ∧ Keep Fr w (w.alloc o) := by
  have hE := ext_grow (K := K) (β := β) (κ := κ) (rows' := rows') hid w.heap.size c
  refine ⟨⟨fun bl o' v hk => ?_, fun j x hj => ?_, fun i j x y hi hj hx hy e => ?_, fun j x hj hx => ?_, fun bl hb => ?_⟩, keep_alloc s.frsz o⟩
  · obtain ⟨c', T, fz, h1, h2⟩ := s.wk bl o' v hk
    exact ⟨c', T, fz, by rw [alloc_old _ (s.lt hk)]; exact h1, h2⟩
  · rw [get_set hid] at hj
    split at hj
    · injection hj with hj; subst hj; subst_vars; exact hB
    · rename_i hne
      refine BRel.mono hE (upd_ne (Ne.symm hne)) (upd_ne (Ne.symm hne)) (fun _ _ h => h) (fun hx vs' hh => ?_) (s.blk j x hj)
      obtain ⟨T, hh⟩ := hh
      exact ⟨T, by rw [alloc_old _ (owns_lt s hj hx)]; exact hh⟩
  · rw [get_set hid] at hi hj
    split at hi
    · split at hj
      · omega
      · rename_i h1 h2
        subst h1
        rw [upd_same, upd_ne (Ne.symm h2)] at e
        have := owns_lt s hj hy; omega
    · split at hj
      · rename_i h1 h2
        subst h2
        rw [upd_same, upd_ne (Ne.symm h1)] at e
        have := owns_lt s hi hx; omega
      · rename_i h1 h2
        rw [upd_ne (Ne.symm h1), upd_ne (Ne.symm h2)] at e
        exact s.inj i j x y hi hj hx hy e
  · rw [get_set hid] at hj
    split at hj
    · subst_vars; rw [upd_same]; intro hb; have := s.frsz _ hb; omega
    · rename_i h1; rw [upd_ne (Ne.symm h1)]; exact s.nfr j x hj hx
  · have := s.frsz bl hb; simp; omega

/-- The cells of a new block: the old rows, the new ones, and more. -/
theorem rws_join {sz : Nat} {rows ys : Rows} {old us rest : List Value} (h1 : Rws K (fun o => old[o]?) sz 0 rows) (hl : old.length = rows.length * sz) (h2 : Rws K (fun o => us[o]?) sz 0 ys) (hl2 : us.length = ys.length * sz) :
    Rws K (fun o => (old ++ us ++ rest)[o]?) sz 0 (rows ++ ys) := by
  refine .append (h1.shift fun i hi => ?_) (h2.shift fun i hi => ?_)
  · simp only [Nat.zero_add]
    rw [List.append_assoc, List.getElem?_append_left (by omega)]
  · simp only [Nat.zero_add]
    rw [List.append_assoc, List.getElem?_append_right (by omega), List.getElem?_append_left (by omega)]
    congr 1; omega

theorem append_sound {t t' ty nid : Nat} {dst x z : AVal} {u v : Value} {H' : Heap} (s : SR Fr K β κ H w) (hd : RA K β κ H dst u) (hx : RA K β κ H x v) (ht' : ∃ d, P.underlying t' = some (.slice d))
    (h : (plAppend P t dst x nid).run H (fun v H' => some (v, H')) = some (z, H')) :
    ∃ r w', (Builtin.append_ #[t, t'] ty #[u, v]).run P w = .ok r w' ∧ Post Fr K β κ H w z H' r w' := by
  unfold plAppend at h
  split at h
  · rename_i e hu
    split at h
    · rename_i hc
      simp only [Bool.and_eq_true, decide_eq_true_eq] at hc
      obtain ⟨⟨⟨hzo, hpos⟩, hby⟩, hby0⟩ := hc
      obtain ⟨inf, zv, hinf, hzv, hzs⟩ := zeroOk_some hzo
      split at h
      · rename_i id ver sz0 len0
        simp only [Plan.run] at h
        obtain ⟨bs, hbl, hbs, h⟩ := blksOf_some h
        split at h
        · rename_i sz ver' rows bs'
          cases hb : (Nat.beq ver ver' && !((handles x).contains id)) with
          | false => rw [hb] at h; cases h
          | true =>
            rw [hb] at h
            simp only [Bool.and_eq_true] at hb
            have hver := Nat.eq_of_beq_eq_true hb.1; subst hver
            simp only [cond_true] at h
            split at h
            · rename_i hsz; subst hsz
              obtain ⟨ys, hys, h⟩ := par1 (appRows_bind _ x (P.cellsOf e)) h
              obtain ⟨hroom, h⟩ := onRoom_some h
              rw [if_pos (by simpa using hbl)] at h
              simp only [Option.some.injEq, Prod.mk.injEq] at h
              obtain ⟨rfl, rfl⟩ := h
              have hid : H[id]? = some (.vec (P.cellsOf e) ver rows) := by
                obtain ⟨b, h1, h2⟩ := hbs 0 id rfl
                simp at h1; subst h1; exact h2
              have hbs' : Blks H (handles x) bs' := fun i j hi => by simpa using hbs (i + 1) j (by simpa using hi)
              have hset : setAll H (id :: handles x) (.vec (P.cellsOf e) (ver + 1) (rows ++ ys) :: bs') = H.set id (.vec (P.cellsOf e) (ver + 1) (rows ++ ys)) := by
                simp only [setAll]
                refine setAll_same fun i j hi => ?_
                obtain ⟨b, h1, h2⟩ := hbs' i j hi
                refine ⟨b, h1, ?_⟩
                rw [get_set hid, if_neg ?_]
                · exact h2
                · rintro rfl
                  have := List.mem_of_getElem? hi
                  simp [this] at hb
              rw [hset]
              obtain ⟨xa, n, xc, us, hv, hn, husl, hleaf, hus, hfc⟩ := appRows_sound (P := P) (lkMem_look s hbs') (fun _ _ _ hk => s.cell hk) hx hys
              subst hn
              have hrel := s.blk id _ hid
              have hcur' : curOf (H.set id (.vec (P.cellsOf e) (ver + 1) (rows ++ ys))) id = some (P.cellsOf e, ver + 1, (rows ++ ys).length) := by
                rw [curOf_eq, get_set hid, if_pos rfl]; rfl
              cases hd with
              | vh hcur hle hsl hf =>
                have hcur0 : curOf H id = some (P.cellsOf e, ver, rows.length) := by rw [curOf_eq, hid]; rfl
                rw [hcur0] at hcur; injection hcur with hcur; injection hcur with e1 hcur; injection hcur with e2 e3
                subst e1; subst e2; subst e3
                obtain ⟨_, h4⟩ := hf rfl
                -- the new block, or the same
                have hgrow : ∀ {sLen sCap : Nat} {ad : Option Addr} {old : List Value}, u = .slice ad sLen sCap → sLen = rows.length → sCap < sLen + ys.length → old.length = rows.length * P.cellsOf e → Rws K (fun o => old[o]?) (P.cellsOf e) 0 rows →
                    (∀ w2 : World, w2.heap = w.heap → (Builtin.firstCells (P.cellsOf e) sLen (.slice ad sLen sCap)).run P w2 = .ok ⟨old⟩ w2) →
                    ∃ r w', (Builtin.append_ #[t, t'] ty #[u, v]).run P w = .ok r w' ∧ Post Fr K β κ H w (.vh id (ver + 1) (P.cellsOf e) (rows ++ ys).length) (H.set id (.vec (P.cellsOf e) (ver + 1) (rows ++ ys))) r w' := by
                  intro sLen sCap ad old hu' hsl' hlt hol hor hof
                  subst hu'; subst hsl'
                  obtain ⟨cap, rest, hcap, hrun, hrest⟩ := run_append_new (ty := ty) hu ht' hinf hzv hby hby0 ⟨_, _, hv⟩ hlt (by omega) hfc hof
                  have hne : rows ++ ys ≠ [] := by
                    intro e0; have := congrArg List.length e0; simp at this
                    rw [this.1, this.2] at hlt; simp at hlt
                  have hlen : (rows ++ ys).length = rows.length + ys.length := by simp
                  obtain ⟨s2, k2⟩ := (drew_rel s).move (c := cap) (rows' := rows ++ ys) hid (.cells ⟨old ++ us ++ rest⟩ e) (.inr ⟨old ++ us ++ rest, ⟨e, by rw [upd_same]; exact alloc_new _⟩, rws_join hor hol hus husl,
                    fun o => by rw [upd_same]; exact s.noneOf (Nat.le_refl _) o, by
                      rw [upd_same]
                      simp only [List.length_append, hol, husl, hrest, hzs]
                      rw [← Nat.add_mul, ← Nat.add_mul]
                      exact Nat.mul_le_mul_right _ (by omega), by rw [upd_same]; omega⟩)
                  refine ⟨_, _, hrun, K, _, _, s2, ext_grow hid _ _, .refl _ _, ⟨k2.os, k2.tape, k2.output, k2.size, k2.same, k2.sizes⟩, ?_⟩
                  refine .vh hcur' (Nat.le_refl _) (by rw [hlen]; exact ⟨_, _, rfl, hcap, fun _ => rfl⟩) fun _ => ⟨rfl, .inr ⟨by rw [hlen]; omega, ?_⟩⟩
                  rw [upd_same, upd_same, hlen]; rfl
                rcases h4 with ⟨hz, ad, rfl⟩ | ⟨hz, rfl⟩
                · have := List.eq_nil_of_length_eq_zero hz; subst this
                  by_cases hy : ys = []
                  · -- nothing there, nothing appended
                    subst hy
                    simp at husl; subst husl
                    refine ⟨_, _, run_append_in (w' := w) (us := []) (n := 0) hu ht' hinf ⟨_, _, hv⟩ (by simp) hfc (fun bl o _ => rfl) (by simp) (by simp), K, upd β id (β id), upd κ id (κ id), ?_, ext_grow hid _ _, .refl _ _, .refl _ _, ?_⟩
                    · have eb : upd β id (β id) = β := by funext j; unfold upd; split <;> simp_all
                      have ek : upd κ id (κ id) = κ := by funext j; unfold upd; split <;> simp_all
                      rw [eb, ek]
                      have hE := ext_grow (K := K) (β := β) (κ := κ) (rows' := []) hid (β id) (κ id)
                      rw [eb, ek] at hE
                      refine ⟨s.wk, fun j y hj => ?_, fun i j y y' hi hj hy hy' e0 => ?_, fun j y hj hy => ?_, s.frsz⟩
                      · simp only [List.append_nil] at hj
                        rw [get_set hid] at hj
                        split at hj
                        · injection hj with hj; subst hj; exact .inl rfl
                        · exact BRel.mono hE rfl rfl (fun _ _ h => h) (fun _ _ h => h) (s.blk j y hj)
                      · simp only [List.append_nil] at hi hj
                        rw [get_set hid] at hi hj
                        split at hi
                        · injection hi with hi; subst hi; exact absurd rfl hy
                        · split at hj
                          · injection hj with hj; subst hj; exact absurd rfl hy'
                          · exact s.inj i j y y' hi hj hy hy' e0
                      · simp only [List.append_nil] at hj
                        rw [get_set hid] at hj
                        split at hj
                        · injection hj with hj; subst hj; exact absurd rfl hy
                        · exact s.nfr j y hj hy
                    · exact .vh (bl := 0) hcur' (Nat.le_refl _) ⟨_, _, rfl, by simp, by simp⟩ fun _ => ⟨rfl, .inl ⟨rfl, _, rfl⟩⟩
                  · refine hgrow (old := []) rfl rfl ?_ (by simp) (.nil _ _ _) fun w2 _ => ?_
                    · have : 0 < ys.length := List.length_pos_iff.2 hy
                      simp; exact this
                    · cases ad with
                      | none => rfl
                      | some a => simp only [Builtin.firstCells, List.length_nil, Nat.zero_mul]; rfl
                · rcases hrel with rfl | ⟨vs, h5, h6, h7, h8, h9⟩
                  · simp at hz
                  · by_cases hin : rows.length + ys.length ≤ κ id
                    · have hfit : rows.length * P.cellsOf e + us.length ≤ vs.length := by
                        rw [husl, ← Nat.add_mul]
                        exact Nat.le_trans (Nat.mul_le_mul_right _ hin) h8
                      obtain ⟨w', h10, h11⟩ := run_storeCells (P := P) us (o := rows.length * P.cellsOf e) (i := 0) h5 (by omega) hleaf
                      simp only [Nat.add_zero] at h11
                      have hw0 : us = [] → w' = w := by
                        rintro rfl
                        simp only [storeCells] at h10
                        injection h10 with _ h10; exact h10.symm
                      have hlen : (rows ++ ys).length = rows.length + ys.length := by simp
                      have hne : rows ≠ [] := fun e0 => hz (by rw [e0]; rfl)
                      have hne' : rows ++ ys ≠ [] := by simp [hne]
                      have hrun := run_append_in (P := P) (w := w) (w' := w') (ty := ty) (us := us) (n := ys.length) (ad := some ⟨β id, 0, none⟩) (sLen := rows.length) (sCap := κ id) hu ht' hinf ⟨_, _, hv⟩ hin hfc
                        (fun bl o e0 => by injection e0 with e0; injection e0 with e1 e2 _; subst e1; subst e2; simpa using h10) (fun a e0 _ => by injection e0 with e0; subst e0; rfl)
                        (fun e0 => by rcases e0 with e0 | e0; · cases e0
                                      · exact hw0 e0)
                      have hor : rows.length * P.cellsOf e ≤ vs.length := by omega
                      obtain ⟨s2, k2⟩ := s.update (new := .vec (P.cellsOf e) (ver + 1) (rows ++ ys)) hid hne hne' h5 (by simp only [splice, List.length_append, List.length_take, List.length_drop]; omega) h7 h11 (ext_grow' hid) (.inr ⟨_, h11.held, by
                          have hsp : splice vs (rows.length * P.cellsOf e) us = vs.take (rows.length * P.cellsOf e) ++ us ++ vs.drop (rows.length * P.cellsOf e + us.length) := rfl
                          rw [hsp]
                          refine rws_join (h6.shift fun i hi => ?_) (by simp; omega) hus husl
                          simp only [Nat.zero_add]
                          rw [List.getElem?_take, if_pos hi], h7, by
                          simp only [splice, List.length_append, List.length_take, List.length_drop]; omega, by rw [hlen]; exact hin⟩)
                      refine ⟨_, _, hrun, K, β, κ, s2, ext_grow' hid, .refl _ _, k2, ?_⟩
                      exact .vh hcur' (Nat.le_refl _) (by rw [hlen]; exact ⟨_, _, rfl, hin, fun _ => rfl⟩) fun _ => ⟨rfl, .inr ⟨by rw [hlen]; omega, by rw [hlen]⟩⟩
                    · obtain ⟨old, ho1, ho2, ho3⟩ := h6.vals
                      refine hgrow rfl rfl (by omega) ho1 ho3 fun w2 hw2 => ?_
                      simp only [Builtin.firstCells]
                      rw [← ho1]
                      exact run_loadCells_list w2 _ old fun j u' hj => by
                        rw [addr_add]
                        have := (ho2 j u' hj).1
                        have hc := h5.cell (0 + j)
                        simp only [World.cell?, hw2] at hc ⊢
                        rw [hc]; exact this
            · cases h
        · cases h
      · simp only [Plan.run] at h
        obtain ⟨bs, hbl, hbs, h⟩ := viewsOf_some h
        obtain ⟨ys, hys, h⟩ := par1 (appRows_bind _ x (P.cellsOf e)) h
        obtain ⟨hroom, h⟩ := onRoom_some h
        obtain ⟨H2, hput, h⟩ := putNew_some h
        simp only [Option.some.injEq, Prod.mk.injEq] at h
        obtain ⟨rfl, rfl⟩ := h
        have := hd.dv; subst this
        obtain ⟨xa, n, xc, us, hv, hn, husl, hleaf, hus, hfc⟩ := appRows_sound (P := P) (lkMem_look s hbs) (fun _ _ _ hk => s.cell hk) hx hys
        subst hn
        by_cases hy : ys = []
        · subst hy
          simp at husl; subst husl
          have hcur : curOf H2 nid = some (P.cellsOf e, 0, 0) := by rw [curOf_eq, hput.self]; rfl
          have hE := ext_new (K := K) (β := β) (κ := κ) hput (β nid) (κ nid)
          rw [upd_id, upd_id] at hE
          refine ⟨_, _, run_append_in (w' := w) (us := []) (n := 0) hu ht' hinf ⟨_, _, hv⟩ (by simp) hfc (fun bl o e0 => by cases e0) (by simp) (by simp), K, β, κ, ?_, hE, .refl _ _, .refl _ _, ?_⟩
          · refine ⟨s.wk, fun j y hj => ?_, fun i j y y' hi hj hy hy' e0 => ?_, fun j y hj hy => ?_, s.frsz⟩
            · rw [hput.get] at hj
              split at hj
              · injection hj with hj; subst hj; exact .inl rfl
              · exact BRel.mono hE rfl rfl (fun _ _ h => h) (fun _ _ h => h) (s.blk j y hj)
            · rw [hput.get] at hi hj
              split at hi
              · injection hi with hi; subst hi; exact absurd rfl hy
              · split at hj
                · injection hj with hj; subst hj; exact absurd rfl hy'
                · exact s.inj i j y y' hi hj hy hy' e0
            · rw [hput.get] at hj
              split at hj
              · injection hj with hj; subst hj; exact absurd rfl hy
              · exact s.nfr j y hj hy
          · exact .vh (bl := 0) hcur (Nat.le_refl _) ⟨_, _, rfl, by simp, by simp⟩ fun _ => ⟨rfl, .inl ⟨rfl, _, rfl⟩⟩
        · have hpos' : 0 < ys.length := List.length_pos_iff.2 hy
          obtain ⟨cap, rest, hcap, hrun, hrest⟩ := run_append_new (P := P) (w := w) (ty := ty) (sLen := 0) (sCap := 0) (ad := none) (old := []) hu ht' hinf hzv hby hby0 ⟨_, _, hv⟩ (by omega) (by omega) hfc (fun w2 _ => rfl)
          simp only [Nat.zero_add] at hcap hrun hrest
          have hcur : curOf H2 nid = some (P.cellsOf e, 0, ys.length) := by rw [curOf_eq, hput.self]; rfl
          obtain ⟨s2, e2, k2⟩ := (drew_rel s).new hput cap (.cells ⟨[] ++ us ++ rest⟩ e) (fun hE => .inr ⟨[] ++ us ++ rest, ⟨e, by rw [upd_same]; exact alloc_new _⟩,
            by simpa using rws_join (K := K) (rows := []) (old := []) (rest := rest) (.nil _ _ _) (by simp) hus husl,
            fun o => by rw [upd_same]; exact s.noneOf (Nat.le_refl _) o, by
              rw [upd_same]
              simp only [List.length_append, List.length_nil, Nat.zero_add, husl, hrest, hzs]
              rw [← Nat.add_mul]
              exact Nat.mul_le_mul_right _ (by omega), by rw [upd_same]; exact hcap⟩)
          refine ⟨_, _, hrun, K, _, _, s2, e2, .refl _ _, ⟨k2.os, k2.tape, k2.output, k2.size, k2.same, k2.sizes⟩, ?_⟩
          refine .vh hcur (Nat.le_refl _) ⟨_, _, rfl, hcap, fun _ => rfl⟩ fun _ => ⟨rfl, .inr ⟨by omega, ?_⟩⟩
          rw [upd_same, upd_same]; rfl
      · cases h
    · cases h
  · cases h
end Go.Eng

namespace Go.Eng
open Go

variable {P : Program} {K : KMap} {β κ : Nat → Nat} {H : Heap} {w : World} {Fr : Nat → Prop}

mutual
theorem toD_congr {lk lk' : Nat → BView} : ∀ (x : AVal), (∀ id ∈ handles x, lk id = lk' id) → toD lk x = toD lk' x
  | .junk, _ => rfl
  | .d _, _ => rfl
  | .ptr .., _ => rfl
  | .ep .., _ => rfl
  | .hs id .., h => by simp only [toD]; rw [h id (by simp [handles])]
  | .vh id .., h => by simp only [toD]; rw [h id (by simp [handles])]
  | .agg cs, h => by simp only [toD]; rw [toDs_congr cs h]
  | .tup cs, h => by simp only [toD]; rw [toDs_congr cs h]
  | .fn f cs, h => by simp only [toD]; rw [toDs_congr cs h]
theorem toDs_congr {lk lk' : Nat → BView} : ∀ (xs : List AVal), (∀ id ∈ handles.handlesL xs, lk id = lk' id) → toD.toDs lk xs = toD.toDs lk' xs
  | [], _ => rfl
  | x :: xs, h => by
    simp only [toD.toDs]
    rw [toD_congr x fun id hi => h id (by simp [handles.handlesL, hi]), toDs_congr xs fun id hi => h id (by simp [handles.handlesL, hi])]
end

theorem cur_in {id : Nat} {r : Nat × Nat × Nat} (h : curOf H id = some r) : ∃ b, H[id]? = some b := by
  rw [curOf_eq] at h
  cases e : H[id]? with
  | none => rw [e] at h; cases h
  | some b => exact ⟨b, rfl⟩

mutual
theorem handles_in : ∀ (x : AVal) {v : Value}, RA K β κ H x v → ∀ id ∈ handles x, ∃ b, H[id]? = some b
  | .junk, _, _, _, h => by simp [handles] at h
  | .d _, _, _, _, h => by simp [handles] at h
  | .ptr .., _, _, _, h => by simp [handles] at h
  | .ep .., _, _, _, h => by simp [handles] at h
  | .hs id .., _, hx, i, h => by
    simp only [handles, List.mem_singleton] at h; subst h
    cases hx with | hs hc _ _ _ => exact cur_in hc
  | .vh id .., _, hx, i, h => by
    simp only [handles, List.mem_singleton] at h; subst h
    cases hx with | vh hc _ _ _ => exact cur_in hc
  | .agg cs, _, hx, i, h => by
    cases hx with | agg hs => exact handlesL_in cs hs i (by simpa [handles] using h)
  | .tup cs, _, hx, i, h => by
    cases hx with | tup hs => exact handlesL_in cs hs i (by simpa [handles] using h)
  | .fn f cs, _, hx, i, h => by
    cases hx with | fn hs => exact handlesL_in cs hs i (by simpa [handles] using h)
theorem handlesL_in : ∀ (xs : List AVal) {vs : List Value}, RAs K β κ H xs vs → ∀ id ∈ handles.handlesL xs, ∃ b, H[id]? = some b
  | [], _, _, _, h => by simp [handles.handlesL] at h
  | x :: xs, _, hx, i, h => by
    cases hx with
    | cons h1 h2 =>
      simp only [handles.handlesL, List.mem_append] at h
      rcases h with h | h
      · exact handles_in x h1 i h
      · exact handlesL_in xs h2 i h
end

def viewIn (H : Heap) (ids : List Nat) (id : Nat) : BView := if id ∈ ids then viewAt H id else .none

theorem lkOk_viewIn {K' : KMap} {ids : List Nat} (hall : ∀ id ∈ ids, ∃ x, H[id]? = some x) (s : SR Fr K' β κ (freezeAll H ids) w) : LkOk K' β (freezeAll H ids) (viewIn H ids) := by
  intro id sz ver rows h
  unfold viewIn at h
  split at h
  · rename_i hid
    obtain ⟨b, hb⟩ := hall id hid
    unfold viewAt at h
    rw [hb] at h
    dsimp only at h
    have hg := freezeAll_get ids H hall id
    rw [if_pos hid, hb, Option.map_some, view_freeze h] at hg
    exact ⟨by rw [curOf_eq, hg]; rfl, s.blk id _ hg⟩
  · cases h

/-- A value as data: what it leads to is written no longer. -/
theorem data_of (s : SR Fr K β κ H w) {x : AVal} {u : Value} {y : DVal} (hx : RA K β κ H x u) (h : toD (viewAt H) x = some y) :
    ∃ K', SR Fr K' β κ (freezeAll H (handles x)) w ∧ Ext K β κ H K' β κ (freezeAll H (handles x)) ∧ KNew Fr K K' ∧ V K' y u := by
  have hall := handles_in x hx
  obtain ⟨K', s1, e1, n1⟩ := s.freezeAll _ hall
  refine ⟨K', s1, e1, n1, toD_sound (lkOk_viewIn hall s1) x (hx.mono e1) ?_⟩
  rw [← h]
  exact (toD_congr x fun id hid => by simp [viewIn, hid]).symm

end Go.Eng

namespace Go.Eng
open Go

variable {P : Program} {K : KMap} {β κ : Nat → Nat} {H : Heap} {w : World} {Fr : Nat → Prop}

/-- The same where versions may have begun anew. -/
def PostA (Fr : Nat → Prop) (K : KMap) (β : Nat → Nat) (H : Heap) (w : World) (y : AVal) (H' : Heap) (u : Value) (w' : World) : Prop :=
  ∃ K' β' κ', SR Fr K' β' κ' H' w' ∧ ExtA H.length K β H K' β' H' ∧ KNew Fr K K' ∧ Keep Fr w w' ∧ RA K' β' κ' H' y u

/-- The machine's call does what the abstract answer says. -/
def Sim (P : Program) (g : FuncId) (args : List AVal) (H : Heap) (r : AVal) (H' : Heap) : Prop :=
  ∀ (Fr : Nat → Prop) (K : KMap) (β κ : Nat → Nat) (w : World) (vs : List Value), SR Fr K β κ H w → RAs K β κ H args vs →
    Calls P g ⟨vs⟩ w fun e w' => ∃ u, e = .returned u ∧ PostA Fr K β H w r H' u w'

/-- A function without a text. -/
def ExtSim (P : Program) (g : FuncId) (args : List AVal) (r : AVal) : Prop :=
  ∀ (K : KMap) (w : World) (vs : List Value), RAs K id id [] args vs → ∃ u, (callFunc g ⟨vs⟩).run P w = .ok (.value u) w ∧ RA K id id [] r u

def OrcOk (P : Program) (X : Orc) : Prop := ∀ g args H r H', X g args H = some (r, H') → ∀ fn, P.funcs[g]? = some fn →
  (fn.body ≠ none → Sim P g args H r H') ∧ (fn.body = none → H = [] → H' = [] ∧ ExtSim P g args r)

theorem onCall_some {A : Type} {r : Option (AVal × Heap)} {f : DVal → Option A} {y : A} (h : onCall r f = some y) : ∃ z Hz x, r = some (z, Hz) ∧ toD (viewAt Hz) z = some x ∧ f x = some y := by
  unfold onCall at h; split at h
  · split at h
    · exact ⟨_, _, _, rfl, by assumption, h⟩
    · cases h
  · cases h

theorem vs_of_ras {xs : List DVal} {vs : List Value} {H : Heap} (h : RAs K β κ H (xs.map .d) vs) : Vs K xs vs := by
  induction xs generalizing vs with
  | nil => cases h; exact .nil
  | cons x xs ih => cases h with | cons h1 h2 => cases h1 with | d h1 => exact .cons h1 (ih h2)

theorem run_callFunc {g : FuncId} {fn : Func} {body : Code} {args : Array Value} (hf : P.funcs[g]? = some fn) (hb : fn.body = some body) (hn : fn.name ≠ "runtime.NumGoroutine") : (callFunc g args).run P w = .ok (.enter g args) w := by
  unfold callFunc
  have hn' : (fn.name == "runtime.NumGoroutine") = false := by simpa using hn
  simp only [Sem.run_bind, run_program, Result.andThen_ok, hf, hn', hb, Option.isNone_some, Bool.false_eq_true, if_false, Sem.run_pure]

theorem run_callValue {o : Oper} {c : Call} {a : Act} {f : Operand} {g : FuncId} {cs : List Value} (ho : o.op = .call c) (hc : c.callee = .value f) (hv : a.eval f = .func (.func g) #[] ⟨cs⟩) :
    (execOp a.eval o).run P w = (callFunc g ⟨(c.args.toList.map a.eval) ++ cs⟩).run P w := by
  unfold execOp
  simp only [ho, resolve, hc, hv, Deferred.ofValue, Sem.run_bind, Sem.run_pure, Result.andThen_ok, invoke]
  congr 2
  apply Array.ext'
  simp

/-- A scalar's value is the same in whatever memory. -/
theorem castLeaf_scalar {t : TypeId} {x y : DVal} {u : Value} {K' : KMap} (hs : scalarTy P t = true) (h : castLeaf P t x some = some y) (hv : V K x u) : V K' y u := by
  have hy := castLeaf_sound h hv
  unfold scalarTy at hs
  unfold castLeaf at h
  split at hs
  · rename_i k hu
    simp only [hu] at h
    unfold onInt at h; split at h
    · split at h
      · injection h with h; subst h; cases hy; exact .v _ rfl
      · cases h
    · cases h
  · rename_i hu
    simp only [hu] at h
    unfold onBool at h; split at h
    · injection h with h; subst h; cases hy; exact .v _ rfl
    · cases h
  · rename_i hu
    simp only [hu] at h
    unfold onStr at h; split at h
    · injection h with h; subst h; cases hy; exact .v _ rfl
    · cases h
  · cases hs

theorem scalar_aggTy {t : TypeId} (hs : scalarTy P t = true) : aggTy P t = some false := by
  unfold scalarTy at hs
  unfold aggTy
  split at hs <;> simp_all

theorem castVal_scalar {t : TypeId} {x : DVal} {y : AVal} {u : Value} {K' : KMap} {β' κ' : Nat → Nat} {H' : Heap} (hs : scalarTy P t = true) (hv : V K x u) (h : castVal P t x some = some y) : RA K' β' κ' H' y u := by
  unfold castVal at h
  rw [scalar_aggTy hs] at h
  simp only at h
  obtain ⟨y', hy, h⟩ := par1 (castLeaf_bind P t x) h
  injection h with h; subst h
  exact .d (castLeaf_scalar hs hy hv)

theorem castRes_scalar {ts : List TypeId} {x : DVal} {y : AVal} {u : Value} {K' : KMap} {β' κ' : Nat → Nat} {H' : Heap} (hs : ts.all (scalarTy P) = true) (hv : V K x u) (h : castRes P ts x some = some y) : RA K' β' κ' H' y u := by
  unfold castRes at h
  split at h
  · rename_i t
    simp at hs
    exact castVal_scalar hs hv h
  · unfold onTup at h
    split at h
    · rename_i xs
      split at h
      · rename_i hl
        obtain ⟨ys, hy, h⟩ := par1 (castVals_bind P _ xs 0) h
        injection h with h; subst h
        cases hv with
        | tup _ vs hvs =>
          have hc : ∀ (ts : List TypeId) (pre post : List DVal) (vpost : List Value) (ys : List AVal), ts.all (scalarTy P) = true → Vs K post vpost → xs = pre ++ post → ts.length = post.length → castVals P ts xs pre.length some = some ys → RAs K' β' κ' H' ys vpost := by
            intro ts
            induction ts with
            | nil =>
              intro pre post vpost ys _ hv' _ hlen hy'
              cases post with
              | nil => cases hv'; injection hy' with hy'; subst hy'; exact .nil
              | cons _ _ => simp at hlen
            | cons t ts ih =>
              intro pre post vpost ys hs hv' hcs hlen hy'
              simp only [List.all_cons, Bool.and_eq_true] at hs
              simp only [castVals] at hy'
              obtain ⟨x, hx, hy'⟩ := onCell_some hy'
              obtain ⟨y, hy1, hy'⟩ := par1 (castVal_bind P t x) hy'
              obtain ⟨zs, hz, hy'⟩ := par1 (castVals_bind P ts xs (pre.length + 1)) hy'
              injection hy' with hy'; subst hy'
              cases hv' with
              | nil => simp at hlen
              | cons h1 h2 =>
                rename_i x' _ _ _
                subst hcs
                simp at hx; subst hx
                exact .cons (castVal_scalar hs.1 h1 hy1) (ih (pre ++ [x']) _ _ _ hs.2 h2 (by simp) (by simpa using hlen) (by simpa using hz))
          exact .tup (hc _ [] xs vs ys hs hvs rfl hl.symm hy)
      · cases h
    · cases h

/-- With everything that is there kept as it is, nothing of the abstract heap is at hand. -/
theorem SR.empty (s : SR Fr K β κ H w) : SR (· < w.heap.size) K β κ [] w :=
  ⟨s.wk, fun _ _ h => by simp at h, fun _ _ _ _ h => by simp at h, fun _ _ h => by simp at h, fun _ h => h⟩

/-- Behind a call that left all that was there as it was. -/
theorem SR.after (s : SR Fr K β κ H w) {K2 : KMap} {w' : World} (hle : KLe K K2) (hwk : ∀ bl o v, K2 bl o = some v → ∃ c T fz, w'.heap[bl]? = some (.cells c T fz) ∧ c[o]? = some v)
    (hnew : ∀ bl o v, K bl o = none → K2 bl o = some v → ¬ bl < w.heap.size) (hk : Keep (· < w.heap.size) w w') :
    SR Fr K2 β κ H w' ∧ Ext K β κ H K2 β κ H ∧ KNew Fr K K2 ∧ Keep Fr w w' := by
  have hE : Ext K β κ H K2 β κ H := ⟨hle, fun _ h => ⟨h, rfl⟩, fun _ _ cv n h => ⟨cv, n, h, .inl ⟨rfl, rfl, rfl, rfl⟩⟩, (Ext.refl K β κ H).kd⟩
  refine ⟨⟨hwk, fun id x hid => ?_, s.inj, s.nfr, fun bl hb => Nat.lt_of_lt_of_le (s.frsz bl hb) hk.size⟩, hE, fun bl o v h1 h2 hb => hnew bl o v h1 h2 (s.frsz bl hb),
    ⟨hk.os, hk.tape, hk.output, hk.size, fun bl hb => hk.same bl (s.frsz bl hb), hk.sizes⟩⟩
  refine BRel.mono hE rfl rfl (fun ho o hn => ?_) (fun ho vs hh => ?_) (s.blk id x hid)
  · cases e : K2 (β id) o with
    | none => rfl
    | some v => exact absurd (owns_lt s hid ho) (hnew _ _ _ hn e)
  · obtain ⟨T, hh⟩ := hh
    exact ⟨T, by rw [hk.same _ (owns_lt s hid ho)]; exact hh⟩

theorem plCall_sound {X : Orc} (hX : OrcOk P X) {g : FuncId} {fn : Func} (hf : P.funcs[g]? = some fn) (hn : fn.name ≠ "runtime.NumGoroutine") {args : List AVal} {vs : List Value} {z : AVal} {H' : Heap} (s : SR Fr K β κ H w)
    (ha : RAs K β κ H args vs) (h : (plCall P X g fn args).run H (fun v H' => some (v, H')) = some (z, H')) {o : Oper} {a : Act} (ho : (execOp a.eval o).run P w = (callFunc g ⟨vs⟩).run P w) :
    Does P o a w (Post Fr K β κ H w z H') := by
  -- what is known of the answer, once the arguments are data in some memory that fixes more
  have main : ∀ (K1 : KMap) (as : List AVal) (z : AVal) (Hz : Heap) (x : DVal), (∀ bl o v, K1 bl o = some v → ∃ c T fz, w.heap[bl]? = some (.cells c T fz) ∧ c[o]? = some v) → (∀ β κ, RAs K1 β κ [] as vs) → X g as [] = some (z, Hz) → toD (viewAt Hz) z = some x →
      ∀ R : Value → World → Prop, (∀ (u : Value) (w' : World) (K2 : KMap), KLe K1 K2 → (∀ bl o v, K2 bl o = some v → ∃ c T fz, w'.heap[bl]? = some (.cells c T fz) ∧ c[o]? = some v) → (∀ bl o v, K1 bl o = none → K2 bl o = some v → ¬ bl < w.heap.size) →
        Keep (· < w.heap.size) w w' → V K2 x u → R u w') → Does P o a w R := by
    intro K1 as z Hz x hwk has hx hzx R hR
    obtain ⟨h1, h2⟩ := hX g _ _ _ _ hx fn hf
    cases hb : fn.body with
    | some body =>
      refine .inr (.inr ⟨g, ⟨vs⟩, w, by rw [ho, run_callFunc hf hb hn], ?_⟩)
      have hS := h1 (by rw [hb]; simp) (· < w.heap.size) K1 β κ w vs ⟨hwk, fun _ _ h => by simp at h, fun _ _ _ _ h => by simp at h, fun _ _ h => by simp at h, fun _ h => h⟩ (has β κ)
      refine hS.mono fun e w2 ⟨u, he, K2, β2, κ2, s2, e2, n2, k2, r2⟩ => ?_
      obtain ⟨K3, s3, e3, n3, hv⟩ := data_of s2 r2 hzx
      exact ⟨u, he, hR u w2 K3 (e2.kle.trans e3.kle) s3.wk (n2.trans e2.kle n3) k2 hv⟩
    | none =>
      obtain ⟨hnil, hext⟩ := h2 hb rfl
      subst hnil
      obtain ⟨u, h3, h4⟩ := hext K1 w vs (has id id)
      refine .inl ⟨u, w, by rw [ho]; exact h3, hR u w K1 (.refl _) hwk (fun _ _ _ h h' => by rw [h] at h'; cases h') (.refl _ _) (toD_sound LkOk.none _ h4 ?_)⟩
      rw [← hzx]; exact toD_congr _ fun _ _ => by simp [viewAt]
  unfold plCall at h
  dsimp only at h
  split at h
  · rename_i hsc
    simp only [Plan.run] at h
    obtain ⟨bs, h1, h2, h3⟩ := viewsOf_some h
    split at h3
    · rename_i ds hds
      obtain ⟨as, has, h3⟩ := par1 (castArgs_bind P fn ds) h3
      obtain ⟨z0, Hz, x, hx, hzx, h3⟩ := onCall_some h3
      obtain ⟨y, hy, h3⟩ := par1 (castRes_bind P _ x) h3
      simp only [Option.some.injEq, Prod.mk.injEq] at h3
      obtain ⟨rfl, rfl⟩ := h3
      obtain ⟨K1, s1, e1, n1⟩ := s.freezeAll _ (blks_all h2)
      have hvs := toDs_sound (lkOk_frozen h2 (blks_all h2) s1) _ (ha.mono e1) hds
      refine main K1 as z0 Hz x s1.wk (fun β κ => castArgs_sound hvs has) hx hzx _ fun u w' K2 hle hwk2 hnew hk hv => ?_
      obtain ⟨s3, e3, n3, k3⟩ := s.after (K2 := K) (w' := w') (.refl _) (fun bl o v hk' => by
        obtain ⟨c, T, fz, h5, h6⟩ := s.wk bl o v hk'
        exact ⟨c, T, fz, by rw [hk.same _ (s.lt hk')]; exact h5, h6⟩) (fun _ _ _ h h' => by rw [h] at h'; cases h') hk
      exact ⟨K, β, κ, s3, e3, n3, k3, castRes_scalar hsc hv hy⟩
    · cases h3
  · simp only [Plan.run] at h
    obtain ⟨bs, h1, h2, h3⟩ := viewsOf_some h
    split at h3
    · rename_i ds hds
      obtain ⟨as, has, h3⟩ := par1 (castArgs_bind P fn ds) h3
      obtain ⟨z0, Hz, x, hx, hzx, h3⟩ := onCall_some h3
      obtain ⟨y, hy, h3⟩ := par1 (castRes_bind P _ x) h3
      simp only [Option.some.injEq, Prod.mk.injEq] at h3
      obtain ⟨rfl, rfl⟩ := h3
      obtain ⟨K1, s1, e1, n1⟩ := s.freezeAll _ (blks_all h2)
      have hvs := toDs_sound (lkOk_frozen h2 (blks_all h2) s1) _ (ha.mono e1) hds
      refine main K1 as z0 Hz x s1.wk (fun β κ => castArgs_sound hvs has) hx hzx _ fun u w' K2 hle hwk2 hnew hk hv => ?_
      obtain ⟨s3, e3, n3, k3⟩ := s1.after hle hwk2 hnew hk
      exact ⟨K2, β, κ, s3, e1.trans e3, n1.trans e1.kle n3, k3, castRes_sound hv hy⟩
    · cases h3

/-- A block that another call made. -/
theorem SR.put (s : SR Fr K β κ H w) {nid bl : Nat} {sz : Nat} {rows : Rows} {H' : Heap} (h : PutNew H nid (.arr sz rows) H') {β2 κ2 : Nat → Nat} {H2 : Heap} {id2 : Nat} (hB : BRel K β2 κ2 H2 w id2 (.arr sz rows)) (hbl : β2 id2 = bl)
    (hfr : rows ≠ [] → ¬ Fr bl) (hne : rows ≠ [] → ∀ id x, H[id]? = some x → owns x → β id ≠ bl) :
    SR Fr K (upd β nid bl) (upd κ nid 0) H' w ∧ Ext K β κ H K (upd β nid bl) (upd κ nid 0) H' := by
  have hE := ext_new (K := K) (β := β) (κ := κ) h bl 0
  refine ⟨⟨s.wk, fun j x hj => ?_, fun i j x y hi hj hx hy e => ?_, fun j x hj hx => ?_, s.frsz⟩, hE⟩
  · rw [h.get] at hj
    split at hj
    · injection hj with hj; subst hj; subst_vars
      simp only [BRel, upd_same] at hB ⊢; exact hB
    · rename_i hne
      exact BRel.mono hE (upd_ne hne) (upd_ne hne) (fun _ _ h => h) (fun hx vs' hh => hh) (s.blk j x hj)
  · rw [h.get] at hi hj
    split at hi
    · split at hj
      · omega
      · rename_i h1 h2
        subst h1
        injection hi with hi; subst hi
        rw [upd_same, upd_ne h2] at e
        exact absurd e.symm (hne hx _ _ hj hy)
    · split at hj
      · rename_i h1 h2
        subst h2
        injection hj with hj; subst hj
        rw [upd_same, upd_ne h1] at e
        exact absurd e (hne hy _ _ hi hx)
      · rename_i h1 h2
        rw [upd_ne h1, upd_ne h2] at e
        exact s.inj i j x y hi hj hx hy e
  · rw [h.get] at hj
    split at hj
    · injection hj with hj; subst hj; subst_vars; rw [upd_same]; exact hfr hx
    · rename_i h1; rw [upd_ne h1]; exact s.nfr j x hj hx

theorem plCallN_sound {X : Orc} (hX : OrcOk P X) {g : FuncId} {fn : Func} {body : Code} (hf : P.funcs[g]? = some fn) (hn : fn.name ≠ "runtime.NumGoroutine") (hb : fn.body = some body) {args : List AVal} {vs : List Value} {nid : Nat} {z : AVal} {H' : Heap} (s : SR Fr K β κ H w)
    (ha : RAs K β κ H args vs) (h : (plCallN P X g fn args nid).run H (fun v H' => some (v, H')) = some (z, H')) {o : Oper} {a : Act} (ho : (execOp a.eval o).run P w = (callFunc g ⟨vs⟩).run P w) :
    Does P o a w (Post Fr K β κ H w z H') := by
  unfold plCallN at h
  split at h
  · rename_i rt hrt
    split at h
    · rename_i ds hds
      simp only [Plan.run, viewsOf] at h
      obtain ⟨as, has, h⟩ := par1 (castArgs_bind P fn ds) h
      unfold onOwn at h
      split at h
      · rename_i x Hx hx
        have hvs : Vs K ds vs := toDs_sound LkOk.none _ ha hds
        have hS := (hX g _ _ _ _ hx fn hf).1 (by rw [hb]; simp) (· < w.heap.size) K β κ w vs s.empty (castArgs_sound hvs has)
        refine .inr (.inr ⟨g, ⟨vs⟩, w, by rw [ho, run_callFunc hf hb hn], ?_⟩)
        refine hS.mono fun e w2 ⟨u, he, K2, β2, κ2, s2, e2, n2, k2, r2⟩ => ⟨u, he, ?_⟩
        obtain ⟨s3, e3, n3, k3⟩ := s.after e2.kle s2.wk n2 k2
        unfold castOwn1 at h
        split at h
        · rename_i e hu
          unfold onHs at h
          dsimp only at h
          split at h
          · rename_i id sz' len
            split at h
            · rename_i hids
              obtain ⟨rfl, rfl⟩ := hids
              unfold onArr at h
              dsimp only at h
              split at h
              · rename_i sz'' rows hrows
                split at h
                · rename_i hsz; subst hsz
                  obtain ⟨H1, hput, h⟩ := putNew_some h
                  simp only [Option.some.injEq, Prod.mk.injEq] at h
                  obtain ⟨rfl, rfl⟩ := h
                  obtain ⟨s4, e4⟩ := s3.put hput (s2.blk _ _ hrows) rfl (fun hr hf => s2.nfr _ _ hrows hr (s.frsz _ hf)) (fun hr id y hid hy e => s2.nfr _ _ hrows hr (e ▸ owns_lt s hid hy))
                  refine ⟨K2, _, _, s4, e3.trans e4, n3, k3, ?_⟩
                  cases r2 with
                  | hs hc hle hsl hfx =>
                    rw [curOf_eq, hrows] at hc
                    simp only [Option.bind_some, curB, Option.some.injEq, Prod.mk.injEq] at hc
                    obtain ⟨_, rfl, rfl⟩ := hc
                    obtain ⟨h3, h4⟩ := hfx rfl
                    exact .hs (cv := 0) (n := rows.length) (by rw [curOf_eq, Nat.add_zero, hput.self]; rfl) (Nat.le_refl _) hsl fun _ => ⟨h3, fun hz => by rw [Nat.add_zero, upd_same]; exact h4 hz⟩
                · cases h
              · cases h
            · cases h
          · cases h
        · unfold onD at h
          dsimp only at h
          split at h
          · obtain ⟨y, h1, h2⟩ := par1 (castLeaf_bind P rt _) h
            cases h2
          · cases h
      · cases h
    · cases h
  · cases h
end Go.Eng

namespace Go.Eng
open Go

variable {P : Program} {K : KMap} {β κ : Nat → Nat} {H : Heap} {w : World} {Fr : Nat → Prop}

theorem pure_run {f : ∀ {A : Type}, (AVal → Option A) → Option A} (hp : ∀ {A B : Type} (k : AVal → Option A) (h : A → Option B), (f k).bind h = f fun v => (k v).bind h) {z : AVal} {H' : Heap}
    (h : (Plan.pure f).run H (fun v H' => some (v, H')) = some (z, H')) : H' = H ∧ f some = some z := by
  simp only [Plan.run, viewsOf] at h
  obtain ⟨y, h1, h2⟩ := par1 (g := f) (fun k h => hp k h) h
  simp only [Option.some.injEq, Prod.mk.injEq] at h2
  exact ⟨h2.2.symm, by rw [h1, h2.1]⟩

theorem does_value {o : Oper} {a : Act} {z : AVal} (s : SR Fr K β κ H w) (h : ∃ r, (execOp a.eval o).run P w = .ok (.value r) w ∧ RA K β κ H z r) : Does P o a w (Post Fr K β κ H w z H) := by
  obtain ⟨r, h1, h2⟩ := h
  exact .inl ⟨r, w, h1, .same s h2⟩

/-- An operation that yields what 's' yields. -/
theorem does_of {o : Oper} {a : Act} {sm : Sem Value} (ho : execOp a.eval o = (do pure (.value (← sm)))) {z : AVal} (s : SR Fr K β κ H w) (h : ∃ r, sm.run P w = .ok r w ∧ RA K β κ H z r) : Does P o a w (Post Fr K β κ H w z H) := by
  obtain ⟨r, h1, h2⟩ := h
  exact does_value s ⟨r, by simp only [ho, Sem.run_bind, h1, Result.andThen_ok, Sem.run_pure], h2⟩

theorem does_of' {o : Oper} {a : Act} {sm : Sem Value} (ho : execOp a.eval o = (do pure (.value (← sm)))) {z : AVal} {H' : Heap} (h : ∃ r w', sm.run P w = .ok r w' ∧ Post Fr K β κ H w z H' r w') : Does P o a w (Post Fr K β κ H w z H') := by
  obtain ⟨r, w', h1, h2⟩ := h
  exact .inl ⟨r, w', by simp only [ho, Sem.run_bind, h1, Result.andThen_ok, Sem.run_pure], h2⟩

theorem ras_map {tm : Tm} {a : Act} (hf : FR K β κ H tm a.tmps) (xs : Array Operand) : RAs K β κ H (xs.toList.map (ev tm)) (xs.map a.eval).toList := by
  rw [Array.toList_map]; exact evs_sound hf _

theorem planOf_sound {X : Orc} (hX : OrcOk P X) {cf : Cf} {ops : Array Oper} {o : Oper} {tm : Tm} {nid : Nat} {a : Act} {z : AVal} {H' : Heap} (s : SR Fr K β κ H w) (hf : FR K β κ H tm a.tmps)
    (h : (planOf P X cf ops o (ev tm) nid).run H (fun v H' => some (v, H')) = some (z, H')) : Does P o a w (Post Fr K β κ H w z H') := by
  unfold planOf at h
  dsimp only at h
  split at h
  · -- move
    rename_i x ho
    have h' := pure_run (f := fun {A} k => k (ev tm x)) (fun k h => rfl) h; clear h; obtain ⟨rfl, h⟩ := h'
    injection h with h; subst h
    exact does_value s ⟨a.eval x, by simp only [execOp, ho, Sem.run_pure], ev_sound hf x⟩
  · rename_i x ho
    have h' := pure_run (f := fun {A} k => k (ev tm x)) (fun k h => rfl) h; clear h; obtain ⟨rfl, h⟩ := h'
    injection h with h; subst h
    exact does_value s ⟨a.eval x, by simp only [execOp, ho, Sem.run_pure], ev_sound hf x⟩
  · -- pick
    rename_i c x y ho
    split at h
    · rename_i t hc
      have hc0 := ev_sound hf c
      rw [hc] at hc0
      have hcv := hc0.dv
      clear hc0
      have h' := pure_run (f := fun {A} k => if t = true then k (ev tm x) else k (ev tm y)) (fun k h => by rw [ite_bind]) h; clear h; obtain ⟨rfl, h⟩ := h'
      have hrun : (execOp a.eval o).run P w = .ok (.value (if t = true then a.eval x else a.eval y)) w := by
        simp only [execOp, ho, Sem.run_bind]; rw [hcv]; rfl
      refine does_value s ⟨_, hrun, ?_⟩
      cases t
      · simp only [Bool.false_eq_true, if_false, Option.some.injEq] at h ⊢; subst h; exact ev_sound hf y
      · simp only [if_true, Option.some.injEq] at h ⊢; subst h; exact ev_sound hf x
    · cases h
  · -- alloc
    rename_i t ho
    split at h
    · rename_i zs hzs
      split at h
      · rename_i hal
        obtain ⟨inf, zv, hinf, hzv, rfl⟩ := zeroLeaves_some hzs
        simp only [Plan.run, viewsOf] at h
        obtain ⟨H2, hput, h⟩ := putNew_some h
        simp only [Option.some.injEq, Prod.mk.injEq] at h
        obtain ⟨rfl, rfl⟩ := h
        obtain ⟨us, h1, h2, h3⟩ := constD_cells (K := K) (β := β) (κ := κ) (H := H) hal
        refine does_of' (sm := Instr.alloc t true (.tuple #[])) (by simp only [execOp, ho]) ⟨_, _, ?_, new_cel s hput h2 h3 t⟩
        simp only [Instr.alloc, Sem.run_bind, run_zero hinf hzv, Result.andThen_ok, newVar, h1, run_newRow, Sem.run_pure]
      · cases h
    · cases h
  · -- box
    rename_i t x ho
    simp only [Plan.run, viewsOf] at h
    split at h
    · rename_i hal
      obtain ⟨H2, hput, h⟩ := putNew_some h
      simp only [Option.some.injEq, Prod.mk.injEq] at h
      obtain ⟨rfl, rfl⟩ := h
      obtain ⟨us, h1, h2, h3⟩ := leaves_sound (ev_sound hf x) hal
      refine does_of' (sm := Instr.box t (a.eval x)) (by simp only [execOp, ho]) ⟨_, _, ?_, new_cel s hput h2 h3 t⟩
      simp only [Instr.box, Sem.run_bind, newVar, h1, run_newRow, Result.andThen_ok, Sem.run_pure]
    · cases h
  · -- build
    rename_i t parts ho
    split at h
    · rename_i cs hcs
      have h' := pure_run (f := fun {A} k => k (.agg cs)) (fun k h => rfl) h; clear h; obtain ⟨rfl, h⟩ := h'
      injection h with h; subst h
      exact does_of (sm := Instr.build t (parts.map fun (i, x) => (i, a.eval x))) (by simp only [execOp, ho]) s (build_sound (partsOf_sound hf parts) hcs)
    · cases h
  · -- buildSlice
    rename_i t len parts ho
    exact does_of' (sm := Instr.buildSlice t len (parts.map fun (i, x) => (i, a.eval x))) (by simp only [execOp, ho]) (buildSlice_sound s (partsOf_sound hf parts) h)
  · -- load
    rename_i t x ho
    obtain ⟨rfl, h1⟩ := plLoad_sound s (ev_sound hf x) h
    exact does_of (sm := Instr.loadAt t (a.eval x)) (by simp only [execOp, ho]) s h1
  · -- store
    rename_i t x y ho
    obtain ⟨w', h1, h2⟩ := plStore_sound s (ev_sound hf x) (ev_sound hf y) h
    exact .inr (.inl ⟨w', by simp only [execOp, ho, Sem.run_bind, h1, Result.andThen_ok, Sem.run_pure], h2⟩)
  · -- nilCheck
    rename_i x ho
    have hx := ev_sound hf x
    split at h
    · rename_i id off he
      rw [he] at hx
      have h' := pure_run (f := fun {A} k => k (.ptr id off)) (fun k h => rfl) h; clear h; obtain ⟨rfl, h⟩ := h'
      injection h with h; subst h
      refine does_value s ⟨a.eval x, ?_, hx⟩
      generalize hv : a.eval x = v at hx
      cases hx with | ptr hc => simp only [execOp, ho, hv, Sem.run_pure]
    · rename_i id ver i off he
      rw [he] at hx
      have h' := pure_run (f := fun {A} k => k (.ep id ver i off)) (fun k h => rfl) h; clear h; obtain ⟨rfl, h⟩ := h'
      injection h with h; subst h
      refine does_value s ⟨a.eval x, ?_, hx⟩
      generalize hv : a.eval x = v at hx
      cases hx with | ep hc _ _ => simp only [execOp, ho, hv, Sem.run_pure]
    · rename_i row off he
      rw [he] at hx
      have h' := pure_run (f := fun {A} k => k (.d (.rp row off))) (fun k h => rfl) h; clear h; obtain ⟨rfl, h⟩ := h'
      injection h with h; subst h
      refine does_value s ⟨a.eval x, ?_, hx⟩
      generalize hv : a.eval x = v at hx
      cases hx with | d hd => cases hd with | rp => simp only [execOp, ho, hv, Sem.run_pure]
    · cases h
  · -- binOp
    rename_i op t x y yt ho
    have h' := pure_run (f := fun {A} k => binK P t (isConstB x || isConstB y) op (ev tm x) (ev tm y) k) (fun k h => binK_bind ..) h; clear h; obtain ⟨rfl, h⟩ := h'
    exact does_of (sm := do eqGuard op t x y (a.eval x) (a.eval y); binOp op t (a.eval x) (a.eval y)) (by simp only [execOp, ho]) s (binK_sound (ev_sound hf x) (ev_sound hf y) h)
  · rename_i op t x ho
    have h' := pure_run (f := fun {A} k => unK op (ev tm x) k) (fun k h => unK_bind ..) h; clear h; obtain ⟨rfl, h⟩ := h'
    exact does_of (sm := Op.unary op (a.eval x)) (by simp only [execOp, ho]) s (unK_sound (ev_sound hf x) h)
  · -- convert
    rename_i src dst x ho
    split at h
    · rename_i d hd
      have h' := pure_run (f := fun {A} k => convK P dst (ev tm x) k) (fun k h => convK_bind ..) h; clear h; obtain ⟨rfl, h⟩ := h'
      exact does_of (sm := convert src dst (a.eval x)) (by simp only [execOp, ho]) s (convK_sound ⟨d, hd⟩ (ev_sound hf x) h)
    · cases h
  · -- makeInterface
    rename_i t x ho
    split at h
    · cases h
    · rename_i d y hi hu hy
      have h' := pure_run (f := fun {A} k => k (.d (.ifc t y))) (fun k h => rfl) h; clear h; obtain ⟨rfl, h⟩ := h'
      injection h with h; subst h
      have hx := ev_sound hf x
      rw [hy] at hx
      refine does_of (sm := Instr.makeInterface t (a.eval x)) (by simp only [execOp, ho]) s ⟨.iface t (a.eval x), ?_, ?_⟩
      · simp only [Instr.makeInterface, Sem.run_bind, run_under hu, Result.andThen_ok]
        rfl
      · cases hx with | d hv => exact .d (.ifc _ _ _ hv)
    · cases h
  · -- makeFunc
    rename_i f first caps ho
    split at h
    · rename_i hfirst
      have h' := pure_run (f := fun {A} k => k (.fn f (caps.toList.map (ev tm)))) (fun k h => rfl) h; clear h; obtain ⟨rfl, h⟩ := h'
      injection h with h; subst h
      have he : first = #[] := by cases first; simp at hfirst; simp [hfirst]
      subst he
      exact does_of (sm := Instr.makeFunc f ((#[] : Array Operand).map a.eval) (caps.map a.eval)) (by simp only [execOp, ho]) s ⟨.func f #[] (caps.map a.eval), by simp [Instr.makeFunc], .fn (vs := (caps.map a.eval).toList) (ras_map hf caps)⟩
    · cases h
  · -- makeSlice
    rename_i t l c ho
    exact does_of' (sm := Instr.makeSlice t (a.eval l) (a.eval c)) (by simp only [execOp, ho]) (make_sound s hf h)
  · -- slice
    rename_i t x lo hi mx ho
    have h' := pure_run (f := fun {A} k => sliceK P t (ev tm x) (lo.map (ev tm)) (hi.map (ev tm)) (mx.map (ev tm)) k) (fun k h => sliceK_bind ..) h; clear h; obtain ⟨rfl, h⟩ := h'
    exact does_of (sm := Instr.sliceAt t (a.eval x) (lo.map a.eval) (hi.map a.eval) (mx.map a.eval)) (by simp only [execOp, ho]) s (sliceK_sound hf h)
  · -- fieldAddr
    rename_i st x f ho
    split at h
    · rename_i off ty hfa
      have h' := pure_run (f := fun {A} k => addOff (ev tm x) off k) (fun k h => addOff_bind ..) h; clear h; obtain ⟨rfl, h⟩ := h'
      exact does_of (sm := Instr.fieldAt st (a.eval x) f) (by simp only [execOp, ho]) s (fieldAddr_sound hfa (ev_sound hf x) h)
    · cases h
  · -- field
    rename_i st x f ho
    split at h
    · rename_i off ty cs hfa hcs
      have h' := pure_run (f := fun {A} k => partK P ty cs off k) (fun k h => partK_bind ..) h; clear h; obtain ⟨rfl, h⟩ := h'
      have hx := ev_sound hf x
      rw [hcs] at hx
      exact does_of (sm := Instr.field st (a.eval x) f) (by simp only [execOp, ho]) s (field_sound hfa hx h)
    · cases h
  · rename_i t x i ho
    have h' := pure_run (f := fun {A} k => indexAddrK P t (ev tm x) (ev tm i) k) (fun k h => indexAddrK_bind ..) h; clear h; obtain ⟨rfl, h⟩ := h'
    exact does_of (sm := Instr.indexAt t (a.eval x) (a.eval i)) (by simp only [execOp, ho]) s (indexAddrK_sound (ev_sound hf x) (ev_sound hf i) h)
  · rename_i t x i ho
    have h' := pure_run (f := fun {A} k => indexK P t (ev tm x) (ev tm i) k) (fun k h => indexK_bind ..) h; clear h; obtain ⟨rfl, h⟩ := h'
    exact does_of (sm := Instr.index t (a.eval x) (a.eval i)) (by simp only [execOp, ho]) s (indexK_sound (ev_sound hf x) (ev_sound hf i) h)
  · -- extract
    rename_i x i ho
    split at h
    · rename_i xs hxs
      split at h
      · rename_i y hy
        have h' := pure_run (f := fun {A} k => k y) (fun k h => rfl) h; clear h; obtain ⟨rfl, h⟩ := h'
        injection h with h; subst h
        have hx := ev_sound hf x
        rw [hxs] at hx
        generalize hv : a.eval x = v at hx
        cases hx with
        | tup hs =>
          obtain ⟨r, h1, h2⟩ := hs.get hy
          refine does_of (sm := Instr.extract (a.eval x) i) (by simp only [execOp, ho]) s ⟨r, ?_, h2⟩
          rw [hv]
          unfold Instr.extract
          rename_i vs
          have : (⟨vs⟩ : Array Value)[i]? = some r := by simpa using h1
          simp only [this]; rfl
      · cases h
    · cases h
  · -- call
    rename_i c ho
    split at h
    · -- builtin
      rename_i bi hc
      have hargs := ras_map hf c.args
      have hrun : ∀ sm, (builtin bi c.argTypes o.type (c.args.map fun | .const _ => true | _ => false) (c.args.map a.eval) = (do pure (.value (← sm)))) → execOp a.eval o = (do pure (.value (← sm))) := by
        intro sm hsm
        simp only [execOp, ho, resolve, hc]
        show (pure _ >>= _) = _
        simp only [pure_bind, invoke]
        exact hsm
      split at h
      · rename_i x t hx ht
        have h' := pure_run (f := fun {A} k => lenK P t x k) (fun k h => lenK_bind ..) h; clear h; obtain ⟨rfl, h⟩ := h'
        rw [hx] at hargs
        obtain ⟨v, hv, hxv⟩ : ∃ v, (c.args.map a.eval) = #[v] ∧ RA K β κ H' x v := by
          generalize hg : (c.args.map a.eval) = g at hargs
          obtain ⟨g⟩ := g
          simp only at hargs
          cases hargs with | cons h1 h2 => cases h2; exact ⟨_, rfl, h1⟩
        have htt : c.argTypes = #[t] := by cases hh : c.argTypes; rw [hh] at ht; simp at ht; simp [ht]
        exact does_of (hrun (Builtin.len_ c.argTypes o.type (c.args.map a.eval)) rfl) s (by rw [hv, htt]; exact lenK_sound hxv h)
      · rename_i x xs hx
        have h' := pure_run (f := fun {A} k => foldK minK x xs k) (fun k h => foldK_bind minK minK_bind _ _ _ _) h; clear h; obtain ⟨rfl, h⟩ := h'
        rw [hx] at hargs
        obtain ⟨v, vs, hv, hxv, hxs⟩ : ∃ v vs, (c.args.map a.eval).toList = v :: vs ∧ RA K β κ H' x v ∧ RAs K β κ H' xs vs := by
          generalize hg : (c.args.map a.eval).toList = g at hargs
          cases hargs with | cons h1 h2 => exact ⟨_, _, rfl, h1, h2⟩
        exact does_of (hrun (Builtin.min_ c.argTypes o.type (c.args.map a.eval)) rfl) s (by
          unfold Builtin.min_; rw [hv]
          exact foldK_sound minK_bind minK_sound hxv hxs h)
      · rename_i x xs hx
        have h' := pure_run (f := fun {A} k => foldK maxK x xs k) (fun k h => foldK_bind maxK maxK_bind _ _ _ _) h; clear h; obtain ⟨rfl, h⟩ := h'
        rw [hx] at hargs
        obtain ⟨v, vs, hv, hxv, hxs⟩ : ∃ v vs, (c.args.map a.eval).toList = v :: vs ∧ RA K β κ H' x v ∧ RAs K β κ H' xs vs := by
          generalize hg : (c.args.map a.eval).toList = g at hargs
          cases hargs with | cons h1 h2 => exact ⟨_, _, rfl, h1, h2⟩
        exact does_of (hrun (Builtin.max_ c.argTypes o.type (c.args.map a.eval)) rfl) s (by
          unfold Builtin.max_; rw [hv]
          exact foldK_sound maxK_bind maxK_sound hxv hxs h)
      · rename_i x y t t' hx ht
        split at h
        · rename_i d hd
          rw [hx] at hargs
          obtain ⟨v, v', hv, hxv, hyv⟩ : ∃ v v', (c.args.map a.eval) = #[v, v'] ∧ RA K β κ H x v ∧ RA K β κ H y v' := by
            generalize hg : (c.args.map a.eval) = g at hargs
            obtain ⟨g⟩ := g
            simp only at hargs
            cases hargs with | cons h1 h2 => cases h2 with | cons h2 h3 => cases h3; exact ⟨_, _, rfl, h1, h2⟩
          have htt : c.argTypes = #[t, t'] := by cases hh : c.argTypes; rw [hh] at ht; simp at ht; simp [ht]
          exact does_of' (hrun (Builtin.append_ c.argTypes o.type (c.args.map a.eval)) rfl) (by rw [hv, htt]; exact append_sound s hxv hyv ⟨d, hd⟩ h)
        · cases h
      · cases h
    · -- a function
      rename_i f hc
      split at h
      · rename_i g caps hfv
        split at h
        · rename_i fn hfn
          split at h
          · cases h
          · rename_i hname
            have hfe := ev_sound hf f
            rw [hfv] at hfe
            generalize hv : a.eval f = fv at hfe
            cases hfe with
            | fn hcaps =>
              rename_i cvs
              have hargs : RAs K β κ H (c.args.toList.map (ev tm) ++ caps) (c.args.toList.map a.eval ++ cvs) := (evs_sound hf _).append hcaps
              have hrun := run_callValue (P := P) (w := w) ho hc hv
              split at h
              · rename_i body hb
                split at h
                · exact plCall_sound hX hfn hname s hargs h hrun
                · exact plCallN_sound hX hfn hname hb s hargs h hrun
                · cases h
              · exact plCall_sound hX hfn hname s hargs h hrun
        · cases h
      · cases h
    · cases h
  · cases h
end Go.Eng

namespace Go.Eng
open Go

variable {P : Program} {K : KMap} {β κ : Nat → Nat} {H : Heap} {w : World} {Fr : Nat → Prop}

structure FrmR (P : Program) (K : KMap) (β κ : Nat → Nat) (H : Heap) (f : Frm) (r : RF) : Prop where
  fn : r.fn = f.fid
  todo : r.todo = f.todo
  defers : r.a.defers = []
  slots : FR K β κ H f.tm r.a.tmps
  func : P.funcs[f.fid]? = some f.f
  size : f.f.ntmps ≤ r.a.tmps.size

inductive FrmsR (P : Program) (K : KMap) (β κ : Nat → Nat) (H : Heap) : List Frm → List RF → Prop
  | nil : FrmsR P K β κ H [] []
  | cons {f : Frm} {r : RF} {fs : List Frm} {rs : List RF} : FrmR P K β κ H f r → FrmsR P K β κ H fs rs → FrmsR P K β κ H (f :: fs) (r :: rs)

theorem FrmR.mono {K' : KMap} {β' κ' : Nat → Nat} {H' : Heap} (hE : Ext K β κ H K' β' κ' H') {f : Frm} {r : RF} (h : FrmR P K β κ H f r) : FrmR P K' β' κ' H' f r :=
  ⟨h.fn, h.todo, h.defers, h.slots.mono hE, h.func, h.size⟩
theorem FrmsR.mono {K' : KMap} {β' κ' : Nat → Nat} {H' : Heap} (hE : Ext K β κ H K' β' κ' H') {fs : List Frm} {rs : List RF} (h : FrmsR P K β κ H fs rs) : FrmsR P K' β' κ' H' fs rs := by
  induction fs generalizing rs with
  | nil => cases h; exact .nil
  | cons f fs ih => cases h with | cons h1 h2 => exact .cons (h1.mono hE) (ih h2)

theorem getD_put {a : Act} {d : Tmp} {v : Value} (hd : d < a.tmps.size) (s : Nat) : (a.put (some d) v).tmps.getD s undef = if d = s then v else a.tmps.getD s undef := by
  simp only [Act.put, Array.getD_eq_getD_getElem?, Array.getElem?_setIfInBounds]
  split
  · subst_vars; simp [hd]
  · rfl

theorem putDst_sound {o : Oper} {n : Nat} {v : AVal} {u : Value} {tm tm' : Tm} {a : Act} (h : putDst o n v tm = some tm') (hf : FR K β κ H tm a.tmps) (hv : RA K β κ H v u) (hn : n ≤ a.tmps.size) :
    FR K β κ H tm' (a.put o.dst u).tmps ∧ (a.put o.dst u).tmps.size = a.tmps.size ∧ (a.put o.dst u).defers = a.defers := by
  unfold putDst at h
  split at h
  · rename_i d hd
    rw [hd]
    cases hb : Nat.ble (d + 1) n with
    | false => rw [hb] at h; cases h
    | true =>
      rw [hb] at h
      simp only [cond_true, Option.some.injEq] at h
      subst h
      have hlt : d + 1 ≤ n := Nat.le_of_ble_eq_true hb
      refine ⟨fun s => ?_, by simp [Act.put], rfl⟩
      rw [getD_put (a := a) (d := d) (v := u) (Nat.lt_of_lt_of_le hlt hn)]
      simp only [get]
      cases e : Nat.beq d s with
      | true => have := Nat.eq_of_beq_eq_true e; rw [if_pos this]; exact hv
      | false =>
        have : d ≠ s := by rintro rfl; simp at e
        rw [if_neg this]; exact hf s
  · rename_i hd
    rw [hd]
    injection h with h; subst h
    exact ⟨hf, rfl, rfl⟩

theorem RA.undef : RA K β κ H (.tup []) undef := .tup (vs := []) .nil

theorem RA.undef_val {v : Value} (h : RA K β κ H (.tup []) v) : v = .tuple #[] := by
  cases h with | tup h => cases h; rfl

theorem yielded_undef {ops : Array Oper} {tmps : Array Value} {j s : Nat} {oj : Oper} (hj : ops[j]? = some oj) (hs : oj.dst = some s) (hv : tmps.getD s Go.undef = .tuple #[]) : yielded ops tmps j = none := by
  unfold yielded
  simp only [hj, Option.bind_some, hs]
  rw [Array.getD_eq_getD_getElem?] at hv
  cases e : tmps[s]? with
  | none => rfl
  | some x => rw [e] at hv; simp at hv; subst hv; rfl

theorem guardK_sound {A : Type} {ops : Array Oper} {o : Oper} {tm : Tm} {f : Bool → Tm → Option A} {r : A} {a : Act} (h : guardK ops o tm f = some r) (hf : FR K β κ H tm a.tmps) :
    ∃ want tm', f want tm' = some r ∧ Region.wanted o (yielded ops a.tmps) = want ∧ FR K β κ H tm' a.tmps := by
  unfold guardK at h
  split at h
  · rename_i hg
    exact ⟨true, tm, h, by simp [Region.wanted, hg], hf⟩
  · rename_i j want hg
    split at h
    · rename_i oj hj
      split at h
      · rename_i s hs
        split at h
        · rename_i t ht
          have hv := hf s
          rw [ht] at hv
          have hv := hv.dv
          have hy : yielded ops a.tmps j = some t := by
            have hget : a.tmps[s]? = some (.bool t) := by
              rw [Array.getD_eq_getD_getElem?] at hv
              cases e : a.tmps[s]? with
              | none => rw [e] at hv; simp [undef] at hv
              | some x => rw [e] at hv; simp at hv; rw [hv]
            unfold yielded
            simp [hj, hs, hget]
          have hset : ∀ (c : Bool), t = c → FR K β κ H ((s, b c) :: tm) a.tmps := by
            intro c hc s'
            subst hc
            simp only [get]
            cases e : Nat.beq s s' with
            | true => have := Nat.eq_of_beq_eq_true e; subst this; rw [cond_true, hv]; exact .b _
            | false => exact hf s'
          split at h
          · rename_i htt
            exact ⟨want, _, h, by simp [Region.wanted, hg, hy, htt], hset true htt⟩
          · rename_i htt
            have htf : t = false := by simpa using htt
            exact ⟨!want, _, h, by subst htf; cases want <;> simp [Region.wanted, hg, hy], hset false htf⟩
        · rename_i ht
          have hv := hf s
          rw [ht] at hv
          have hy := yielded_undef hj hs hv.undef_val
          exact ⟨false, _, h, by simp [Region.wanted, hg, hy], hf⟩
        · cases h
      · cases h
    · cases h

/-- An operation, where the run goes on behind it. -/
theorem Fin.does {f0 : FuncId} {R : Ending → World → Prop} {fn : FuncId} {a : Act} {k : List Item} {rs : List RF} {ops : Array Oper} {i : Nat} {rest : List Nat} {o : Oper} (ho : ops[i]? = some o) (hw : Region.wanted o (yielded ops a.tmps) = true)
    {Q : Value → World → Prop} (hd : Does P o a w Q) (h : ∀ u w', Q u w' → Fin P f0 R ((base fn).at (a.put o.dst u) (.inRegion ops rest :: k)) rs w') :
    Fin P f0 R ((base fn).at a (.inRegion ops (i :: rest) :: k)) rs w := by
  rcases hd with ⟨u, w', h1, h2⟩ | ⟨w', h1, h2⟩ | ⟨f, args, w', h1, h2⟩
  · exact .opValue ho hw h1 (h u w' h2)
  · exact .opUnit ho hw h1 (h _ w' h2)
  · exact .opCall ho hw h1 h2 fun e w2 ⟨u, he, hq⟩ => ⟨u, he, h u w2 hq⟩

/-- What the call is to come to, from where it began. -/
structure Base where
  f0 : FuncId
  n0 : Nat
  Fr : Nat → Prop
  K0 : KMap
  β0 : Nat → Nat
  H0 : Heap
  w0 : World

def Base.R (B : Base) (y : AVal) (Hr : Heap) : Ending → World → Prop := fun e w' =>
  ∃ u, e = .returned u ∧ ∃ K' β' κ', SR B.Fr K' β' κ' Hr w' ∧ ExtA B.n0 B.K0 B.β0 B.H0 K' β' Hr ∧ KNew B.Fr B.K0 K' ∧ Keep B.Fr B.w0 w' ∧ RA K' β' κ' Hr y u

/-- Where the run stands. -/
structure CR (P : Program) (B : Base) (K : KMap) (β κ : Nat → Nat) (c : Cfg) (F : RF) (rs : List RF) (w : World) : Prop where
  sr : SR B.Fr K β κ c.H w
  ext : ExtA B.n0 B.K0 B.β0 B.H0 K β c.H
  knew : KNew B.Fr B.K0 K
  keep : Keep B.Fr B.w0 w
  top : FrmR P K β κ c.H c.fr F
  rest : FrmsR P K β κ c.H c.cs rs
  low : ((F :: rs).getLast (by simp)).fn = B.f0

def Sound (P : Program) (B : Base) (c : Cfg) (r : Res) : Prop :=
  ∀ K β κ F rs w, CR P B K β κ c F rs w → Fin P B.f0 (B.R r.1 r.2) ((base F.fn).at F.a F.todo) rs w
end Go.Eng

namespace Go.Eng
open Go

variable {P : Program} {K : KMap} {β κ : Nat → Nat} {H : Heap} {w : World} {Fr : Nat → Prop}

/-- A block that nothing of memory stands behind. -/
theorem SR.addEmpty (s : SR Fr K β κ H w) (sz : Nat) : SR Fr K β κ (H ++ [.vec sz 0 []]) w ∧ Ext K β κ H K β κ (H ++ [.vec sz 0 []]) := by
  have hput : PutNew H H.length (.vec sz 0 []) (H ++ [.vec sz 0 []]) := .inr ⟨rfl, rfl⟩
  have hE := ext_new (K := K) (β := β) (κ := κ) hput (β H.length) (κ H.length)
  rw [upd_id, upd_id] at hE
  refine ⟨⟨s.wk, fun j y hj => ?_, fun i j y y' hi hj hy hy' e0 => ?_, fun j y hj hy => ?_, s.frsz⟩, hE⟩
  · rw [hput.get] at hj
    split at hj
    · injection hj with hj; subst hj; exact .inl rfl
    · exact BRel.mono hE rfl rfl (fun _ _ h => h) (fun _ _ h => h) (s.blk j y hj)
  · rw [hput.get] at hi hj
    split at hi
    · injection hi with hi; subst hi; exact absurd rfl hy
    · split at hj
      · injection hj with hj; subst hj; exact absurd rfl hy'
      · exact s.inj i j y y' hi hj hy hy' e0
  · rw [hput.get] at hj
    split at hj
    · injection hj with hj; subst hj; exact absurd rfl hy
    · exact s.nfr j y hj hy

theorem coerce_sound {sz : Nat} {x y : AVal} {H' : Heap} (s : SR Fr K β κ H w) (h : coerce sz x H = (y, H')) : SR Fr K β κ H' w ∧ Ext K β κ H K β κ H' ∧ ∀ v, RA K β κ H x v → RA K β κ H' y v := by
  unfold coerce at h
  split at h
  · injection h with h1 h2; subst h1; subst h2
    obtain ⟨s1, e1⟩ := s.addEmpty sz
    refine ⟨s1, e1, fun v hv => ?_⟩
    have := hv.dv; subst this
    have hcur : curOf (H ++ [.vec sz 0 []]) H.length = some (sz, 0, 0) := by simp [curOf]
    exact .vh (bl := 0) hcur (Nat.le_refl _) ⟨none, 0, rfl, Nat.le_refl _, fun h => absurd rfl h⟩ fun _ => ⟨rfl, .inl ⟨rfl, _, rfl⟩⟩
  · injection h with h1 h2; subst h1; subst h2
    exact ⟨s, .refl _ _ _ _, fun _ h => h⟩

theorem coerce_same {sz : Nat} {x : AVal} {v : Value} (h : RA K β κ (coerce sz x H).2 x v) : RA K β κ (coerce sz x H).2 (coerce sz x H).1 v := by
  revert h
  unfold coerce
  split
  · intro h
    have := h.dv; subst this
    have hcur : curOf (H ++ [.vec sz 0 []]) H.length = some (sz, 0, 0) := by simp [curOf]
    exact .vh (bl := 0) hcur (Nat.le_refl _) ⟨none, 0, rfl, Nat.le_refl _, fun h => absurd rfl h⟩ fun _ => ⟨rfl, .inl ⟨rfl, _, rfl⟩⟩
  · exact fun h => h

theorem fr_cons {tm : Tm} {tmps : Array Value} (hf : FR K β κ H tm tmps) {s : Nat} {x : AVal} (hx : RA K β κ H x (tmps.getD s undef)) : FR K β κ H ((s, x) :: tm) tmps := by
  intro s'
  simp only [get]
  cases e : Nat.beq s s' with
  | true => have := Nat.eq_of_beq_eq_true e; subst this; exact hx
  | false => exact hf s'

theorem coerceTm_sound : ∀ {l : List (Nat × Nat)} {tm tm' : Tm} {H H' : Heap} {tmps : Array Value}, SR Fr K β κ H w → FR K β κ H tm tmps → coerceTm l tm H = (tm', H') →
    SR Fr K β κ H' w ∧ Ext K β κ H K β κ H' ∧ FR K β κ H' tm' tmps
  | [], tm, tm', H, H', tmps, s, hf, h => by
    injection h with h1 h2; subst h1; subst h2; exact ⟨s, .refl _ _ _ _, hf⟩
  | (sl, sz) :: r, tm, tm', H, H', tmps, s, hf, h => by
    simp only [coerceTm] at h
    obtain ⟨s1, e1, h1⟩ := coerce_sound (y := (coerce sz (get tm sl) H).1) (H' := (coerce sz (get tm sl) H).2) s rfl
    obtain ⟨s2, e2, h2⟩ := coerceTm_sound s1 (fr_cons (hf.mono e1) (h1 _ (hf sl))) h
    exact ⟨s2, e1.trans e2, h2⟩

theorem SR.setCel (s : SR Fr K β κ H w) {id off : Nat} {cs : List AVal} {y : AVal} (hid : H[id]? = some (.cel cs)) (hy : ∀ v, (∃ x, cs[off]? = some x ∧ RA K β κ H x v) → RA K β κ H y v) :
    SR Fr K β κ (H.set id (.cel (cs.set off y))) w ∧ Ext K β κ H K β κ (H.set id (.cel (cs.set off y))) := by
  have hE : Ext K β κ H K β κ (H.set id (.cel (cs.set off y))) := ext_set hid (fun _ _ => ⟨_, rfl⟩) rfl (fun _ _ e => by cases e)
  obtain ⟨vs, h1, h2, h3, h4⟩ := s.blk id _ hid
  refine ⟨⟨s.wk, fun j x hj => ?_, fun i j x x' hi hj hx hx' e => ?_, fun j x hj hx => ?_, s.frsz⟩, hE⟩
  · rw [get_set hid] at hj
    split at hj
    · injection hj with hj; subst hj; subst_vars
      refine ⟨vs, h1, ?_, h3, h4⟩
      have : ∀ {cs : List AVal} {vs : List Value} {off : Nat}, RAs K β κ H cs vs → (∀ v, (∃ x, cs[off]? = some x ∧ RA K β κ H x v) → RA K β κ H y v) → RAs K β κ H (cs.set off y) vs := by
        intro cs vs off h hy
        induction cs generalizing vs off with
        | nil => cases h; exact .nil
        | cons c cs ih =>
          cases h with
          | cons ha hb =>
            cases off with
            | zero => exact .cons (hy _ ⟨c, rfl, ha⟩) hb
            | succ off => exact .cons ha (ih hb (fun v ⟨x, hx1, hx2⟩ => hy v ⟨x, by simpa using hx1, hx2⟩))
      exact (this h2 hy).mono hE
    · exact BRel.mono hE rfl rfl (fun _ _ h => h) (fun _ _ h => h) (s.blk j x hj)
  · rw [get_set hid] at hi hj
    split at hi
    · split at hj
      · subst_vars; rfl
      · subst_vars; exact s.inj _ _ _ x' hid hj trivial hx' e
    · split at hj
      · subst_vars; exact s.inj _ _ x _ hi hid hx trivial e
      · exact s.inj _ _ x x' hi hj hx hx' e
  · rw [get_set hid] at hj
    split at hj
    · subst_vars; exact s.nfr _ _ hid trivial
    · exact s.nfr j x hj hx

theorem coerceH_sound : ∀ {l : List (Nat × Nat × Nat)} {H H' : Heap}, SR Fr K β κ H w → coerceH l H = H' → SR Fr K β κ H' w ∧ Ext K β κ H K β κ H'
  | [], H, H', s, h => by subst h; exact ⟨s, .refl _ _ _ _⟩
  | (id, off, sz) :: r, H, H', s, h => by
    simp only [coerceH] at h
    split at h
    · rename_i cs hid
      split at h
      · rename_i x hx
        obtain ⟨s1, e1, h1⟩ := coerce_sound (y := (coerce sz x H).1) (H' := (coerce sz x H).2) s rfl
        have hid' : (coerce sz x H).2[id]? = some (.cel cs) := by
          have hlt := (List.getElem?_eq_some_iff.1 hid).1
          unfold coerce; split
          · show (H ++ [_])[id]? = _
            rw [List.getElem?_append_left hlt]; exact hid
          · exact hid
        obtain ⟨s2, e2⟩ := s1.setCel (off := off) (y := (coerce sz x H).1) hid' (fun v ⟨x', hx1, hx2⟩ => by
          rw [hx] at hx1; injection hx1 with hx1; subst hx1
          exact coerce_same hx2)
        obtain ⟨s3, e3⟩ := coerceH_sound s2 h
        exact ⟨s3, (e1.trans e2).trans e3⟩
      · exact coerceH_sound s h
    · exact coerceH_sound s h

/- Versions begin anew. -/
theorem blkLen_cur {x : ABlk} {sz cv n : Nat} (h : curB x = some (sz, cv, n)) : blkLen x = n := by
  cases x <;> simp [curB] at h <;> simp_all [blkLen]

theorem blkVer_cur {x : ABlk} {sz cv n : Nat} (h : curB x = some (sz, cv, n)) : blkVer x = cv := by
  cases x <;> simp [curB] at h <;> simp_all [blkVer]

/-- The heap behind it. -/
structure Reset (H H' : Heap) (nb : Nat) : Prop where
  len : H'.length ≤ nb
  get : ∀ (id : Nat) (y : ABlk), H'[id]? = some y → ∃ x, H[id]? = some x ∧ resetBlk H nb x = some y
  has : ∀ (id : Nat) (x : ABlk), id < nb → H[id]? = some x → ∃ y, H'[id]? = some y

theorem resetH_spec : ∀ {H0 H H' : Heap} {nb n : Nat}, resetH H0 nb H n = some H' → H'.length ≤ n ∧ (∀ (id : Nat) (y : ABlk), H'[id]? = some y → ∃ x, H[id]? = some x ∧ resetBlk H0 nb x = some y) ∧ (∀ (id : Nat) (x : ABlk), id < n → H[id]? = some x → ∃ y, H'[id]? = some y)
  | H0, H, H', nb, 0, h => by
    cases H <;> (simp only [resetH, Option.some.injEq] at h; subst h; exact ⟨by simp, by simp, by omega⟩)
  | H0, [], H', nb, n + 1, h => by
    simp only [resetH, Option.some.injEq] at h; subst h; exact ⟨by simp, by simp, by simp⟩
  | H0, b :: bs, H', nb, n + 1, h => by
    simp only [resetH] at h
    split at h
    · rename_i x xs h1 h2
      injection h with h; subst h
      obtain ⟨a, c, d⟩ := resetH_spec h2
      refine ⟨by simp; omega, fun id y hy => ?_, fun id x' hid hx' => ?_⟩
      · cases id with
        | zero => simp at hy; subst hy; exact ⟨b, rfl, h1⟩
        | succ id => simpa using c id y (by simpa using hy)
      · cases id with
        | zero => exact ⟨x, rfl⟩
        | succ id => simpa using d id x' (by omega) (by simpa using hx')
    · cases h

theorem resetBlk_cur {H : Heap} {nb : Nat} {x y : ABlk} (h : resetBlk H nb x = some y) : (∀ sz cv n, curB x = some (sz, cv, n) → curB y = some (sz, 0, n)) ∧ (∀ cs, x = .cel cs → ∃ cs', y = .cel cs') ∧ (x ≠ .gone → y ≠ .gone) ∧
    (∀ sz rows, y = .arr sz rows → x = .arr sz rows) ∧ (owns y ↔ owns x) := by
  cases x with
  | gone => simp only [resetBlk, Option.some.injEq] at h; subst h; simp [curB, owns]
  | cel cs =>
    simp only [resetBlk] at h
    split at h
    · injection h with h; subst h; simp [curB, owns]
    · cases h
  | arr sz rows => simp only [resetBlk, Option.some.injEq] at h; subst h; simp [curB, owns]
  | vec sz ver rows => simp only [resetBlk, Option.some.injEq] at h; subst h; simp [curB, owns]
  | frz sz ver rows => simp only [resetBlk, Option.some.injEq] at h; subst h; simp [curB, owns]

mutual
theorem resetA_sound {H' : Heap} {nb : Nat} (hr : Reset H H' nb) : ∀ (x : AVal) {y : AVal} {v : Value}, resetA H nb x = some y → RA K β κ H x v → RA K β κ H' y v
  | .junk, y, v, h, hx => by simp only [resetA, Option.some.injEq] at h; subst h; exact .junk _
  | .d x, y, v, h, hx => by
    simp only [resetA, Option.some.injEq] at h; subst h
    cases hx with | d hv => exact .d hv
  | .ptr id off, y, v, h, hx => by
    simp only [resetA] at h
    cases hb : Nat.ble (id + 1) nb with
    | false => rw [hb] at h; cases h
    | true =>
      rw [hb] at h; simp only [cond_true, Option.some.injEq] at h; subst h
      cases hx with
      | ptr hc =>
        obtain ⟨cs, hc⟩ := hc
        obtain ⟨y, hy⟩ := hr.has id _ (Nat.le_of_ble_eq_true hb) hc
        obtain ⟨x', hx1, hx2⟩ := hr.get id y hy
        rw [hc] at hx1; injection hx1 with hx1; subst hx1
        obtain ⟨cs', hcs⟩ := (resetBlk_cur hx2).2.1 cs rfl
        exact .ptr ⟨cs', by rw [hy, hcs]⟩
  | .ep id ver i off, y, v, h, hx => by
    simp only [resetA] at h
    cases hb : Nat.ble (id + 1) nb with
    | false => rw [hb] at h; cases h
    | true =>
      rw [hb] at h; simp only [cond_true] at h
      split at h
      · rename_i b hbk
        cases hv : Nat.beq (blkVer b) ver with
        | false => rw [hv] at h; simp only [cond_false, Option.some.injEq] at h; subst h; exact .junk _
        | true =>
          rw [hv] at h; simp only [cond_true, Option.some.injEq] at h; subst h
          have hv := Nat.eq_of_beq_eq_true hv
          cases hx with
          | ep hc hle hf =>
            rw [curOf_eq, hbk] at hc; simp only [Option.bind_some] at hc
            obtain ⟨y, hy⟩ := hr.has id _ (Nat.le_of_ble_eq_true hb) hbk
            obtain ⟨x', hx1, hx2⟩ := hr.get id y hy
            rw [hbk] at hx1; injection hx1 with hx1; subst hx1
            have hcv := blkVer_cur hc
            exact .ep (by rw [curOf_eq, hy]; exact (resetBlk_cur hx2).1 _ _ _ hc) (Nat.le_refl _) fun _ => hf (by omega)
      · injection h with h; subst h; exact .junk _
  | .hs id ver sz off len, y, v, h, hx => by
    simp only [resetA] at h
    cases hb : Nat.ble (id + 1) nb with
    | false => rw [hb] at h; cases h
    | true =>
      rw [hb] at h; simp only [cond_true] at h
      split at h
      · rename_i b hbk
        cases hv : Nat.beq (blkVer b) ver with
        | false => rw [hv] at h; simp only [cond_false, Option.some.injEq] at h; subst h; exact .junk _
        | true =>
          rw [hv] at h; simp only [cond_true, Option.some.injEq] at h; subst h
          have hv := Nat.eq_of_beq_eq_true hv
          cases hx with
          | hs hc hle hsl hf =>
            rw [curOf_eq, hbk] at hc; simp only [Option.bind_some] at hc
            obtain ⟨y, hy⟩ := hr.has id _ (Nat.le_of_ble_eq_true hb) hbk
            obtain ⟨x', hx1, hx2⟩ := hr.get id y hy
            rw [hbk] at hx1; injection hx1 with hx1; subst hx1
            have hcv := blkVer_cur hc
            exact .hs (by rw [curOf_eq, hy]; exact (resetBlk_cur hx2).1 _ _ _ hc) (Nat.le_refl _) hsl fun _ => hf (by omega)
      · injection h with h; subst h; exact .junk _
  | .vh id ver sz len, y, v, h, hx => by
    simp only [resetA] at h
    cases hb : Nat.ble (id + 1) nb with
    | false => rw [hb] at h; cases h
    | true =>
      rw [hb] at h; simp only [cond_true] at h
      split at h
      · rename_i b hbk
        cases hv : Nat.beq (blkVer b) ver with
        | false => rw [hv] at h; simp only [cond_false, Option.some.injEq] at h; subst h; exact .junk _
        | true =>
          rw [hv] at h; simp only [cond_true, Option.some.injEq] at h; subst h
          have hv := Nat.eq_of_beq_eq_true hv
          cases hx with
          | vh hc hle hsl hf =>
            rw [curOf_eq, hbk] at hc; simp only [Option.bind_some] at hc
            obtain ⟨y, hy⟩ := hr.has id _ (Nat.le_of_ble_eq_true hb) hbk
            obtain ⟨x', hx1, hx2⟩ := hr.get id y hy
            rw [hbk] at hx1; injection hx1 with hx1; subst hx1
            have hcv := blkVer_cur hc
            have hlen := (hf (by omega)).1
            rw [blkLen_cur hc, ← hlen]
            exact .vh (by rw [curOf_eq, hy]; exact (resetBlk_cur hx2).1 _ _ _ hc) (Nat.le_refl _) hsl fun _ => hf (by omega)
      · injection h with h; subst h; exact .junk _
  | .agg cs, y, v, h, hx => by
    simp only [resetA] at h
    split at h
    · rename_i xs hxs
      injection h with h; subst h
      cases hx with | agg hs => exact .agg (resetL_sound hr cs hxs hs)
    · cases h
  | .tup cs, y, v, h, hx => by
    simp only [resetA] at h
    split at h
    · rename_i xs hxs
      injection h with h; subst h
      cases hx with | tup hs => exact .tup (resetL_sound hr cs hxs hs)
    · cases h
  | .fn f cs, y, v, h, hx => by
    simp only [resetA] at h
    split at h
    · rename_i xs hxs
      injection h with h; subst h
      cases hx with | fn hs => exact .fn (resetL_sound hr cs hxs hs)
    · cases h
theorem resetL_sound {H' : Heap} {nb : Nat} (hr : Reset H H' nb) : ∀ (xs : List AVal) {ys : List AVal} {vs : List Value}, resetA.resetL H nb xs = some ys → RAs K β κ H xs vs → RAs K β κ H' ys vs
  | [], ys, vs, h, hx => by
    simp only [resetA.resetL, Option.some.injEq] at h; subst h; cases hx; exact .nil
  | x :: xs, ys, vs, h, hx => by
    simp only [resetA.resetL] at h
    split at h
    · rename_i y ys' h1 h2
      injection h with h; subst h
      cases hx with | cons h3 h4 => exact .cons (resetA_sound hr x h1 h3) (resetL_sound hr xs h2 h4)
    · cases h
end

theorem SR.reset {H' : Heap} {nb : Nat} (s : SR Fr K β κ H w) (hr : Reset H H' nb) : SR Fr K β κ H' w := by
  refine ⟨s.wk, fun id y hy => ?_, fun i j x y hi hj hx hy e => ?_, fun id y hy ho => ?_, s.frsz⟩
  · obtain ⟨x, hx, hxy⟩ := hr.get id y hy
    have hrel := s.blk id x hx
    cases x with
    | gone => simp only [resetBlk, Option.some.injEq] at hxy; subst hxy; trivial
    | cel cs =>
      simp only [resetBlk] at hxy
      split at hxy
      · rename_i xs hxs
        injection hxy with hxy; subst hxy
        obtain ⟨vs, h1, h2, h3, h4⟩ := hrel
        exact ⟨vs, h1, resetL_sound hr cs hxs h2, h3, h4⟩
      · cases hxy
    | arr sz rows => simp only [resetBlk, Option.some.injEq] at hxy; subst hxy; exact hrel
    | vec sz ver rows => simp only [resetBlk, Option.some.injEq] at hxy; subst hxy; exact hrel
    | frz sz ver rows => simp only [resetBlk, Option.some.injEq] at hxy; subst hxy; exact hrel
  · obtain ⟨x', hx1, hx2⟩ := hr.get i x hi
    obtain ⟨y', hy1, hy2⟩ := hr.get j y hj
    exact s.inj i j x' y' hx1 hy1 ((resetBlk_cur hx2).2.2.2.2.1 hx) ((resetBlk_cur hy2).2.2.2.2.1 hy) e
  · obtain ⟨x', hx1, hx2⟩ := hr.get id y hy
    exact s.nfr id x' hx1 ((resetBlk_cur hx2).2.2.2.2.1 ho)

theorem Reset.extA {H' : Heap} {nb n : Nat} (hr : Reset H H' nb) (hn : n ≤ nb) : ExtA n K β H K β H' := by
  refine ⟨.refl _, fun id x hid hx hg => ?_⟩
  obtain ⟨y, hy⟩ := hr.has id x (by omega) hx
  obtain ⟨x', hx1, hx2⟩ := hr.get id y hy
  rw [hx] at hx1; injection hx1 with hx1; subst hx1
  exact ⟨y, hy, (resetBlk_cur hx2).2.2.1 hg, fun sz rows' e => ⟨rows', (resetBlk_cur hx2).2.2.2.1 _ _ e, rfl, rfl⟩⟩

theorem keepTm_sound {H' : Heap} {nb : Nat} (hr : Reset H H' nb) {tm : Tm} {tmps : Array Value} (hf : FR K β κ H tm tmps) : ∀ (l : List Nat), FR K β κ H' (keepTm H nb tm l) tmps
  | [] => fun s => .junk _
  | s :: r => by
    simp only [keepTm]
    split
    · rename_i x hx
      exact fr_cons (keepTm_sound hr hf r) (resetA_sound hr _ hx (hf s))
    · exact keepTm_sound hr hf r

theorem resetTm_get {H' : Heap} {nb : Nat} (hr : Reset H H' nb) {s : Nat} {v : Value} : ∀ {tm : Tm}, RA K β κ H (get tm s) v → RA K β κ H' (get (resetTm H nb tm) s) v := by
  intro tm hf
  induction tm with
  | nil => exact .junk _
  | cons p r ih =>
    obtain ⟨t, x⟩ := p
    simp only [get] at hf
    simp only [resetTm]
    split
    · rename_i y hy
      simp only [get]
      cases e : Nat.beq t s with
      | true => rw [e] at hf; simp only [cond_true] at hf ⊢; exact resetA_sound hr _ hy hf
      | false => rw [e] at hf; simp only [cond_false] at hf ⊢; exact ih hf
    · simp only [get]
      cases e : Nat.beq t s with
      | true => exact .junk _
      | false => rw [e] at hf; simp only [cond_false] at hf ⊢; exact ih hf

theorem resetTm_sound {H' : Heap} {nb : Nat} (hr : Reset H H' nb) {tmps : Array Value} {tm : Tm} (hf : FR K β κ H tm tmps) : FR K β κ H' (resetTm H nb tm) tmps := fun s => resetTm_get hr (hf s)

theorem coerceN_same {sz : Nat} {x : AVal} {v : Value} (h : RA K β κ H x v) : RA K β κ H (coerceN sz x) v := by
  unfold coerceN
  split
  · have := h.dv; subst this
    exact .d (.nil _ _ _ (by decide))
  · exact h

theorem coerceNs_sound : ∀ (l : List (Nat × Nat)) {tm : Tm} {tmps : Array Value}, FR K β κ H tm tmps → FR K β κ H (coerceNs l tm) tmps
  | [], _, _, h => h
  | (s, _) :: r, _, _, h => coerceNs_sound r (fr_cons h (coerceN_same (h s)))

theorem coerceNH_sound : ∀ {l : List (Nat × Nat × Nat)} {H : Heap}, SR Fr K β κ H w → SR Fr K β κ (coerceNH l H) w ∧ Ext K β κ H K β κ (coerceNH l H)
  | [], _, s => ⟨s, .refl _ _ _ _⟩
  | (id, off, sz) :: r, H, s => by
    simp only [coerceNH]
    split
    · rename_i cs hid
      split
      · rename_i x hx
        obtain ⟨s2, e2⟩ := s.setCel (off := off) (y := coerceN sz x) hid (fun v ⟨x', hx1, hx2⟩ => by
          rw [hx] at hx1; injection hx1 with hx1; subst hx1
          exact coerceN_same hx2)
        obtain ⟨s3, e3⟩ := coerceNH_sound (l := r) s2
        exact ⟨s3, e2.trans e3⟩
      · exact coerceNH_sound s
    · exact coerceNH_sound s

theorem keepCs_sound {H' : Heap} {nb : Nat} (hr : Reset H H' nb) : ∀ (ls : List (List Nat)) {fs : List Frm} {rs : List RF}, FrmsR P K β κ H fs rs → FrmsR P K β κ H' (keepCs H nb ls fs) rs
  | ls, [], _, h => by
    cases h
    cases ls <;> exact .nil
  | [], f :: fs, _, h => by
    cases h with
    | cons h4 h5 => exact .cons ⟨h4.fn, h4.todo, h4.defers, resetTm_sound hr h4.slots, h4.func, h4.size⟩ (keepCs_sound hr [] h5)
  | l :: ls, f :: fs, _, h => by
    cases h with
    | cons h4 h5 => exact .cons ⟨h4.fn, h4.todo, h4.defers, keepTm_sound hr h4.slots _, h4.func, h4.size⟩ (keepCs_sound hr ls h5)

theorem canon_sound {B : Base} {la : LA} {c c' : Cfg} {F : RF} {rs : List RF} (hb : B.n0 ≤ la.nb) (h : canon la c = some c') (hc : CR P B K β κ c F rs w) : CR P B K β κ c' F rs w := by
  unfold canon at h
  split at h
  rename_i tm H1 h1
  dsimp only at h
  split at h
  · rename_i H' h3
    injection h with h; subst h
    obtain ⟨s0, e0⟩ := coerceNH_sound (l := la.cnils) hc.sr
    obtain ⟨s1, e1', f1⟩ := coerceTm_sound s0 (coerceNs_sound la.nils (hc.top.slots.mono e0)) h1
    have e1 := e0.trans e1'
    obtain ⟨s2, e2⟩ := coerceH_sound s1 (H' := coerceH la.cvecs H1) rfl
    obtain ⟨a, b', d⟩ := resetH_spec h3
    have hr : Reset (coerceH la.cvecs H1) H' la.nb := ⟨a, b', d⟩
    have e3 := e1.trans e2
    refine ⟨s2.reset hr, hc.ext.trans ((e3.toA _).trans (hr.extA hb)), hc.knew, hc.keep, ⟨hc.top.fn, hc.top.todo, hc.top.defers, keepTm_sound hr (f1.mono e2) _, hc.top.func, hc.top.size⟩, ?_, hc.low⟩
    exact keepCs_sound hr la.cs (hc.rest.mono e3)
  · cases h
end Go.Eng

namespace Go.Eng
open Go

variable {P : Program} {K : KMap} {β κ : Nat → Nat} {H : Heap} {w : World} {Fr : Nat → Prop}

/- Which operations must come up ahead. -/
theorem maskFold {g : Edge → Bool} {acc : Array Nat} {n : Nat} : ∀ (l : List Edge) (s : Nat), (l.foldl (fun s e => if g e = true then s ||| 2 ^ e.on ||| acc.getD e.on 0 else s) s).testBit n = true →
    s.testBit n = true ∨ ∃ e ∈ l, g e = true ∧ (e.on = n ∨ (acc.getD e.on 0).testBit n = true)
  | [], s, h => .inl h
  | e :: l, s, h => by
    simp only [List.foldl_cons] at h
    rcases maskFold l _ h with h1 | ⟨e', h1, h2⟩
    · split at h1
      · rename_i hg
        simp only [Nat.testBit_or, Bool.or_eq_true] at h1
        rcases h1 with (h1 | h1) | h1
        · exact .inl h1
        · rw [Nat.testBit_two_pow] at h1
          exact .inr ⟨e, by simp, hg, .inl (by simpa using h1)⟩
        · exact .inr ⟨e, by simp, hg, .inr h1⟩
      · exact .inl h1
    · exact .inr ⟨e', by simp [h1], h2⟩

def BefOk (l : List Oper) (acc : Array Nat) : Prop :=
  acc.size = l.length ∧ ∀ i n, (acc.getD i 0).testBit n = true → ∃ o, l[i]? = some o ∧ ∃ e ∈ o.after.toList, Region.binds .any e = true ∧ (e.on = n ∨ (e.on < i ∧ (acc.getD e.on 0).testBit n = true))

theorem before_ok (ops : Array Oper) : BefOk ops.toList (Region.before ops) := by
  unfold Region.before
  rw [← Array.foldl_toList]
  have step : ∀ (l : List Oper) (pre : List Oper) (acc : Array Nat), BefOk pre acc → BefOk (pre ++ l) (l.foldl (fun acc o =>
      acc.push (o.after.foldl (fun s e => if Region.binds .any e then s ||| 2 ^ e.on ||| acc.getD e.on 0 else s) 0)) acc) := by
    intro l
    induction l with
    | nil => intro pre acc h; simpa using h
    | cons o l ih =>
      intro pre acc h
      simp only [List.foldl_cons]
      have := ih (pre ++ [o]) (acc.push (o.after.foldl (fun s e => if Region.binds .any e then s ||| 2 ^ e.on ||| acc.getD e.on 0 else s) 0)) ?_
      · simpa using this
      · obtain ⟨h1, h2⟩ := h
        refine ⟨by simp [h1], fun i n hb => ?_⟩
        have hget : ∀ j, j < acc.size → ∀ m, (acc.push m).getD j 0 = acc.getD j 0 := by
          intro j hj m
          simp [Array.getD_eq_getD_getElem?, Array.getElem?_push, Nat.ne_of_lt hj]
        rcases Nat.lt_trichotomy i acc.size with hi | hi | hi
        · rw [hget i hi] at hb
          obtain ⟨o', ho', e, he, hbe, hr⟩ := h2 i n hb
          refine ⟨o', by rw [List.getElem?_append_left (by omega)]; exact ho', e, he, hbe, ?_⟩
          rcases hr with hr | ⟨hr, hr2⟩
          · exact .inl hr
          · exact .inr ⟨hr, by rw [hget _ (by omega)]; exact hr2⟩
        · subst hi
          have hself : ∀ m, (acc.push m).getD acc.size 0 = m := by intro m; simp [Array.getD_eq_getD_getElem?]
          rw [hself, ← Array.foldl_toList] at hb
          rcases maskFold (g := Region.binds .any) _ _ hb with hb | ⟨e, he, hbe, hr⟩
          · simp at hb
          · refine ⟨o, by rw [h1]; simp, e, he, hbe, ?_⟩
            rcases hr with hr | hr
            · exact .inl hr
            · have hlt : e.on < acc.size := by
                rcases Nat.lt_or_ge e.on acc.size with h' | h'
                · exact h'
                · simp [Array.getD_eq_getD_getElem?, Array.getElem?_eq_none h'] at hr
              exact .inr ⟨hlt, by rw [hget _ hlt]; exact hr⟩
        · exfalso
          have : (acc.push (o.after.foldl (fun s e => if Region.binds .any e then s ||| 2 ^ e.on ||| acc.getD e.on 0 else s) 0)).getD i 0 = 0 := by
            rw [Array.getD_eq_getD_getElem?, Array.getElem?_eq_none (by simp; omega)]; rfl
          rw [this] at hb; simp at hb
  have := step ops.toList [] #[] ⟨rfl, fun i n h => by simp at h⟩
  simpa using this

theorem okEdges_spec : ∀ {l : List Oper} {s : Nat}, okEdges l s = true → ∀ i o, l[i]? = some o → ∀ e ∈ o.after.toList, Region.binds .any e = true → e.on < s + i
  | [], _, _, i, o, h, _, _, _ => by simp at h
  | x :: l, s, hk, i, o, h, e, he, hb => by
    simp only [okEdges, Bool.and_eq_true, List.all_eq_true] at hk
    cases i with
    | zero =>
      simp at h; subst h
      have := hk.1 e he
      rw [hb] at this
      simp only [Bool.not_true, Bool.false_or, Nat.blt_eq] at this
      exact this
    | succ i =>
      have := okEdges_spec hk.2 i o (by simpa using h) e he hb
      omega

/-- Those that come up are behind all that they wait for. -/
def Closed (ops : Array Oper) (listed : Array Bool) : Prop :=
  ∀ i o, ops[i]? = some o → listed.getD i true = true → ∀ e ∈ o.after.toList, Region.binds .any e = true → listed.getD e.on false = true

theorem ahead_listed {ops : Array Oper} {listed : Array Bool} (hc : Closed ops listed) (hsz : listed.size = ops.size) : ∀ (i : Nat), ∀ o, ops[i]? = some o → (∀ e ∈ o.after.toList, Region.binds .any e = true → listed.getD e.on false = true) →
    ∀ n, ((Region.before ops).getD i 0).testBit n = true → listed.getD n false = true := by
  intro i
  induction i using Nat.strongRecOn with
  | _ i ih =>
    intro o ho hdep n hb
    obtain ⟨o', ho', e, he, hbe, hr⟩ := (before_ok ops).2 i n hb
    rw [Array.getElem?_toList] at ho'
    rw [ho] at ho'; injection ho' with ho'; subst ho'
    have hl := hdep e he hbe
    rcases hr with rfl | ⟨hlt, hr⟩
    · exact hl
    · have hes : e.on < ops.size := by
        rcases Nat.lt_or_ge e.on ops.size with h | h
        · exact h
        · rw [Array.getD_eq_getD_getElem?, Array.getElem?_eq_none (by omega)] at hl; simp at hl
      obtain ⟨oe, hoe⟩ : ∃ oe, ops[e.on]? = some oe := ⟨_, Array.getElem?_eq_getElem hes⟩
      refine ih e.on hlt oe hoe (fun e' he' hb' => ?_) n hr
      have hlt' : listed.getD e.on true = true := by
        rw [Array.getD_eq_getD_getElem?] at hl ⊢
        rw [Array.getElem?_eq_getElem (by omega)] at hl ⊢
        simpa using hl
      exact hc e.on oe hoe hlt' e' he' hb'

/- What an operation does depends on its operands alone. -/
def evf (g : Nat → AVal) : Operand → AVal
  | .tmp t => g t
  | .const v => constD v
  | .func f => .fn (.func f) []
  | .global _ => .junk

theorem ev_evf (tm : Tm) : ev tm = evf (get tm) := by funext x; cases x <;> rfl

theorem partsOf_agree {e e' : Operand → AVal} (ps : Array (Nat × Operand)) (h : ∀ x ∈ (ps.toList.map (·.2)).toArray, e x = e' x) : partsOf e ps = partsOf e' ps :=
  List.map_congr_left fun p hp => by rw [h p.2 (by simp; exact ⟨p.1, by simpa using hp⟩)]

theorem planOf_agree {P : Program} {X : Orc} {cf : Cf} {ops : Array Oper} {o : Oper} {e e' : Operand → AVal} {nid : Nat} (h : ∀ x ∈ o.op.operands, e x = e' x) :
    planOf P X cf ops o e nid = planOf P X cf ops o e' nid := by
  unfold planOf
  cases ho : o.op <;> rw [ho] at h <;> simp only [Op.operands] at h <;> dsimp only
  case build t ps => rw [partsOf_agree ps h]
  case buildSlice t n ps => rw [partsOf_agree ps h]
  case makeFunc fn first captured =>
    rw [List.map_congr_left (l := captured.toList) fun x hx => h x (by simp; exact .inr (by simpa using hx))]
  case call c =>
    have hargs : c.args.toList.map e = c.args.toList.map e' := List.map_congr_left fun x hx => h x (by simp [Call.operands]; exact .inr (by simpa using hx))
    rw [hargs]
    cases hc : c.callee with
    | value f => dsimp only; rw [h f (by simp [Call.operands, hc])]
    | invoke r m => rfl
    | builtin b => rfl
  case slice t x lo hi mx =>
    rw [h x (by simp)]
    have h1 : lo.map e = lo.map e' := by cases lo with | none => rfl | some y => simp [h y (by simp)]
    have h2 : hi.map e = hi.map e' := by cases hi with | none => rfl | some y => simp [h y (by simp)]
    have h3 : mx.map e = mx.map e' := by cases mx with | none => rfl | some y => simp [h y (by simp)]
    rw [h1, h2, h3]
  case pick c x y => rw [h c (by simp), h x (by simp), h y (by simp)]
  case store t x y => rw [h x (by simp), h y (by simp)]
  case binOp op t x y u => rw [h x (by simp), h y (by simp)]
  case indexAddr t x y => rw [h x (by simp), h y (by simp)]
  case index t x y => rw [h x (by simp), h y (by simp)]
  all_goals first
    | rfl
    | (rename_i a; rw [h a (by simp)])
    | (rename_i a b; rw [h a (by simp)])
    | (rename_i a b; rw [h b (by simp)])
    | (rename_i a b c; rw [h b (by simp)])
    | (rename_i a b c; rw [h b (by simp), h c (by simp)])
    | (rename_i a b c; rw [h a (by simp), h b (by simp)])
    | (rename_i a b c d; rw [h c (by simp), h d (by simp)])
    | (rename_i a b c d; rw [h b (by simp), h c (by simp)])
    | (rename_i a b c d e; rw [h c (by simp), h d (by simp)])
end Go.Eng

namespace Go.Eng
open Go

variable {P : Program} {K : KMap} {β κ : Nat → Nat} {H : Heap} {w : World} {Fr : Nat → Prop}

theorem viewsOf_eq {A : Type} {ids : List Nat} {bs : List ABlk} {g : List BView → Option A} (hl : bs.length = ids.length) (hb : Blks H ids bs) : viewsOf H ids g = g (bs.map ABlk.view) := by
  induction ids generalizing g bs with
  | nil => cases bs with
    | nil => rfl
    | cons _ _ => simp at hl
  | cons id ids ih =>
    cases bs with
    | nil => simp at hl
    | cons b bs =>
      obtain ⟨b', h1, h2⟩ := hb 0 id rfl
      simp at h1; subst h1
      simp only [viewsOf, h2]
      exact ih (by simpa using hl) fun i id' hi => by simpa using hb (i + 1) id' (by simpa using hi)

theorem blksOf_eq {A : Type} {ids : List Nat} {bs : List ABlk} {g : List ABlk → Option A} (hl : bs.length = ids.length) (hb : Blks H ids bs) : blksOf H ids g = g bs := by
  induction ids generalizing g bs with
  | nil => cases bs with
    | nil => rfl
    | cons _ _ => simp at hl
  | cons id ids ih =>
    cases bs with
    | nil => simp at hl
    | cons b bs =>
      obtain ⟨b', h1, h2⟩ := hb 0 id rfl
      simp at h1; subst h1
      simp only [blksOf, h2]
      exact ih (by simpa using hl) fun i id' hi => by simpa using hb (i + 1) id' (by simpa using hi)

theorem viewsOf_congr {A : Type} {H H2 : Heap} {ids : List Nat} {g : List BView → Option A} (h : ∀ id ∈ ids, (H2[id]?).map ABlk.view = (H[id]?).map ABlk.view) : viewsOf H2 ids g = viewsOf H ids g := by
  induction ids generalizing g with
  | nil => rfl
  | cons id ids ih =>
    have h1 := h id (by simp)
    simp only [viewsOf]
    cases e : H[id]? with
    | none => rw [e] at h1; simp at h1; rw [List.getElem?_eq_none h1]
    | some b =>
      rw [e] at h1
      cases e2 : H2[id]? with
      | none => rw [e2] at h1; simp at h1
      | some b2 =>
        rw [e2] at h1; simp at h1
        simp only [h1]
        exact ih fun i hi => h i (by simp [hi])

theorem blksOf_congr {A : Type} {H H2 : Heap} {ids : List Nat} {g : List ABlk → Option A} (h : ∀ id ∈ ids, H2[id]? = H[id]?) : blksOf H2 ids g = blksOf H ids g := by
  induction ids generalizing g with
  | nil => rfl
  | cons id ids ih =>
    simp only [blksOf, h id (by simp)]
    split
    · exact ih fun i hi => h i (by simp [hi])
    · rfl

theorem setAll_length : ∀ (ids : List Nat) (bs : List ABlk) (H : Heap), (setAll H ids bs).length = H.length
  | [], _, _ => by simp [setAll]
  | _ :: _, [], _ => by simp [setAll]
  | id :: ids, b :: bs, H => by simp only [setAll]; rw [setAll_length]; simp
theorem freezeAll_length : ∀ (ids : List Nat) (H : Heap), (freezeAll H ids).length = H.length
  | [], _ => rfl
  | id :: ids, H => by
    simp only [freezeAll]; split
    · rw [freezeAll_length]; simp
    · rfl

theorem setAll_out : ∀ (ids : List Nat) (bs : List ABlk) (H : Heap) (j : Nat), j ∉ ids → (setAll H ids bs)[j]? = H[j]?
  | [], _, _, _, _ => by simp [setAll]
  | _ :: _, [], _, _, _ => by simp [setAll]
  | id :: ids, b :: bs, H, j, hj => by
    simp only [List.mem_cons, not_or] at hj
    simp only [setAll]; rw [setAll_out ids bs _ j hj.2]
    rw [List.getElem?_set_ne (Ne.symm hj.1)]
theorem setAll_in : ∀ (ids : List Nat) (bs : List ABlk) (H H2 : Heap) (j : Nat), H.length = H2.length → bs.length = ids.length → j ∈ ids → (setAll H ids bs)[j]? = (setAll H2 ids bs)[j]?
  | [], _, _, _, _, _, _, h => by simp at h
  | _ :: _, [], _, _, _, _, h, _ => by simp at h
  | id :: ids, b :: bs, H, H2, j, hl, hb, hj => by
    simp only [setAll]
    by_cases h : j ∈ ids
    · exact setAll_in ids bs _ _ j (by simpa using hl) (by simpa using hb) h
    · rw [setAll_out _ _ _ _ h, setAll_out _ _ _ _ h]
      have : j = id := by simpa [h] using hj
      subst this
      simp [List.getElem?_set, hl]

def Plan.At (pl : Plan) (H : Heap) (v : AVal) (H' : Heap) : Prop := pl.run H (fun v H' => some (v, H')) = some (v, H')

def Plan.fzs : Plan → List Nat
  | .fz ids _ => ids
  | _ => []

def Plan.Room (pl : Plan) (n : Nat) : Prop :=
  match pl with
  | .new nid _ _ => nid < n
  | _ => True

/-- What a step does to a heap that holds the same where it looks. -/
theorem Plan.At.moved {pl : Plan} (hp : pl.Par) {H H2 H' : Heap} {v : AVal} (h : pl.At H v H') (hlen : H2.length = H.length) (hroom : pl.Room H.length)
    (hrd : ∀ id ∈ pl.fp.rd, (H2[id]?).map ABlk.view = (H[id]?).map ABlk.view) (hwr : ∀ id ∈ pl.fp.wr, H2[id]? = H[id]?) :
    ∃ H2', pl.At H2 v H2' ∧ H2'.length = H2.length ∧ ∀ id, H2'[id]? = if id ∈ pl.fp.wr then H'[id]? else if id ∈ pl.fzs then (H2[id]?).map ABlk.freeze else H2[id]? := by
  unfold Plan.At at *
  cases pl with
  | fail => cases h
  | rd ids f =>
    simp only [Plan.run, Plan.fp, Plan.fzs] at *
    obtain ⟨bs, h1, h2, h3⟩ := viewsOf_some h
    obtain ⟨y, h4, h5⟩ := par1 (g := fun {A} k => f (bs.map ABlk.view) k) (fun k h => hp _ k h) h3
    simp only [Option.some.injEq, Prod.mk.injEq] at h5
    obtain ⟨rfl, rfl⟩ := h5
    refine ⟨H2, ?_, rfl, fun id => by simp⟩
    rw [viewsOf_congr hrd, viewsOf_eq h1 h2]
    have := hp (bs.map ABlk.view) some (fun v => some (v, H2))
    simp only [Option.bind_some] at this
    rw [← this, h4]; rfl
  | fz ids f =>
    simp only [Plan.run, Plan.fp, Plan.fzs] at *
    obtain ⟨bs, h1, h2, h3⟩ := viewsOf_some h
    obtain ⟨y, h4, h5⟩ := par1 (g := fun {A} k => f (bs.map ABlk.view) k) (fun k h => hp _ k h) h3
    simp only [Option.some.injEq, Prod.mk.injEq] at h5
    obtain ⟨rfl, rfl⟩ := h5
    refine ⟨freezeAll H2 ids, ?_, freezeAll_length _ _, fun id => ?_⟩
    · rw [viewsOf_congr hrd, viewsOf_eq h1 h2]
      have := hp (bs.map ABlk.view) some (fun v => some (v, freezeAll H2 ids))
      simp only [Option.bind_some] at this
      rw [← this, h4]; rfl
    · simp only [List.not_mem_nil, if_false]
      refine freezeAll_get ids H2 (fun i hi => ?_) id
      have h6 := hrd i hi
      obtain ⟨x, hx⟩ := blks_all h2 i hi
      rw [hx] at h6
      cases e : H2[i]? with
      | none => rw [e] at h6; simp at h6
      | some y => exact ⟨y, rfl⟩
  | wrs ids f =>
    simp only [Plan.run, Plan.fp, Plan.fzs] at *
    obtain ⟨bs, h1, h2, h3⟩ := blksOf_some h
    obtain ⟨⟨y, bs'⟩, h4, h5⟩ := par1 (B := AVal × List ABlk) (g := fun {A} k => f bs fun v b => k (v, b)) (fun k h => hp _ _ h) (k := fun p => if p.2.length = ids.length then some (p.1, setAll H ids p.2) else none) h3
    dsimp only at h5
    split at h5
    · rename_i hl
      simp only [Option.some.injEq, Prod.mk.injEq] at h5
      obtain ⟨rfl, rfl⟩ := h5
      refine ⟨setAll H2 ids bs', ?_, setAll_length _ _ _, fun id => ?_⟩
      · rw [blksOf_congr hwr, blksOf_eq h1 h2]
        have := hp bs (fun v b => some (v, b)) (fun p => if p.2.length = ids.length then some (p.1, setAll H2 ids p.2) else none)
        simp only [Option.bind_some] at this
        rw [← this, h4]; simp [hl]
      · show (setAll H2 ids bs')[id]? = if id ∈ ids then (setAll H ids bs')[id]? else if id ∈ ([] : List Nat) then Option.map ABlk.freeze H2[id]? else H2[id]?
        by_cases hid : id ∈ ids
        · rw [if_pos hid]; exact setAll_in _ _ _ _ _ hlen hl hid
        · rw [if_neg hid, if_neg (by simp)]; exact setAll_out _ _ _ _ hid
    · cases h5
  | new nid ids f =>
    simp only [Plan.run, Plan.fp, Plan.fzs, Plan.Room] at *
    obtain ⟨bs, h1, h2, h3⟩ := viewsOf_some h
    obtain ⟨⟨blk, y⟩, h4, h5⟩ := par1 (B := ABlk × AVal) (g := fun {A} k => f (bs.map ABlk.view) fun v b => k (v, b)) (fun k h => hp _ _ h) (k := fun p => putNew H nid p.1 fun H' => some (p.2, H')) h3
    dsimp only at h5
    have hnid := hwr nid (by simp)
    unfold putNew at h5
    split at h5
    · rename_i hg
      simp only [Option.some.injEq, Prod.mk.injEq] at h5
      obtain ⟨rfl, rfl⟩ := h5
      rw [hg] at hnid
      refine ⟨H2.set nid blk, ?_, by simp, fun id => ?_⟩
      · rw [viewsOf_congr hrd, viewsOf_eq h1 h2]
        have := hp (bs.map ABlk.view) (fun v b => some (v, b)) (fun p => putNew H2 nid p.1 fun H' => some (p.2, H'))
        simp only [Option.bind_some] at this
        rw [← this, h4]
        simp only [Option.bind_some, putNew, hnid]
      · simp only [List.mem_singleton, List.not_mem_nil, if_false]
        split
        · subst_vars; rw [get_set hnid, get_set hg, if_pos rfl, if_pos rfl]
        · rename_i hne; rw [get_set hnid, if_neg (Ne.symm hne)]
    · cases h5
    · rename_i hg
      have := List.getElem?_eq_none_iff.1 hg
      omega

/-- The step's own place. -/
theorem Plan.At.self {pl : Plan} (hp : pl.Par) {H H' : Heap} {v : AVal} (h : pl.At H v H') (hroom : pl.Room H.length) :
    H'.length = H.length ∧ ∀ id, H'[id]? = if id ∈ pl.fp.wr then H'[id]? else if id ∈ pl.fzs then (H[id]?).map ABlk.freeze else H[id]? := by
  obtain ⟨H2', h1, h2, h3⟩ := h.moved hp rfl hroom (fun _ _ => rfl) (fun _ _ => rfl)
  unfold Plan.At at h h1
  rw [h] at h1
  simp only [Option.some.injEq, Prod.mk.injEq, true_and] at h1
  subst h1
  exact ⟨h2, h3⟩

theorem fzs_rd (pl : Plan) : ∀ id ∈ pl.fzs, id ∈ pl.fp.rd := by
  cases pl <;> simp [Plan.fzs, Plan.fp]

/-- Two steps that are apart. -/
theorem Plan.swap {p q : Plan} (hp : p.Par) (hq : q.Par) {H H1 H2 : Heap} {v u : AVal} (h1 : p.At H v H1) (h2 : q.At H1 u H2) (hrp : p.Room H.length) (hrq : q.Room H.length) (hap : apartFp p.fp q.fp = true) :
    ∃ H1', q.At H u H1' ∧ p.At H1' v H2 ∧ H1'.length = H.length := by
  simp only [apartFp, Bool.and_eq_true, List.all_eq_true, Bool.not_eq_true', List.contains_eq_mem, decide_eq_false_iff_not] at hap
  obtain ⟨ha, hb⟩ := hap
  obtain ⟨l1, e1⟩ := h1.self hp hrp
  obtain ⟨l2, e2⟩ := h2.self hq (by rw [l1]; exact hrq)
  have hmap : ∀ (x : Option ABlk), (x.map ABlk.freeze).map ABlk.view = x.map ABlk.view := by intro x; cases x <;> simp [freeze_view]
  obtain ⟨H1', h3, l3, e3⟩ := h2.moved (H2 := H) hq l1.symm (by rw [l1]; exact hrq) (fun id hid => by
      rw [e1 id]
      have : id ∉ p.fp.wr := fun h => (ha id h).1 hid
      rw [if_neg this]; split
      · rw [hmap]
      · rfl) (fun id hid => by
      rw [e1 id]
      have : id ∉ p.fp.wr := fun h => (ha id h).2 hid
      rw [if_neg this, if_neg (fun h => hb id hid (fzs_rd p id h))])
  obtain ⟨H2', h4, l4, e4⟩ := h1.moved (H2 := H1') hp l3 hrp (fun id hid => by
      rw [e3 id]
      have : id ∉ q.fp.wr := fun h => hb id h hid
      rw [if_neg this]; split
      · rw [hmap]
      · rfl) (fun id hid => by
      rw [e3 id]
      have h5 := ha id hid
      rw [if_neg h5.2, if_neg (fun h => h5.1 (fzs_rd q id h))])
  have : H2' = H2 := by
    apply List.ext_getElem?
    intro id
    rw [e4 id, e2 id]
    by_cases hpw : id ∈ p.fp.wr
    · have h5 := ha id hpw
      rw [if_pos hpw, if_neg h5.2, if_neg (fun h => h5.1 (fzs_rd q id h))]
    · rw [if_neg hpw, e3 id]
      by_cases hqw : id ∈ q.fp.wr
      · rw [if_pos hqw, if_neg (fun h => hb id hqw (fzs_rd p id h))]
        rw [e2 id, if_pos hqw, if_pos hqw]
      · rw [if_neg hqw, if_neg hqw, e1 id, if_neg hpw]
        split <;> split <;> first | rfl | (cases H[id]? <;> simp [freeze_freeze])
  subst this
  exact ⟨H1', h3, h4, l3⟩
end Go.Eng

namespace Go.Eng
open Go

variable {P : Program} {K : KMap} {β κ : Nat → Nat} {H : Heap} {w : World} {Fr : Nat → Prop}

theorem planOf_room {P : Program} {X : Orc} {cf : Cf} {ops : Array Oper} {o : Oper} {e : Operand → AVal} {nid n : Nat} (h : nid < n) : (planOf P X cf ops o e nid).Room n := by
  unfold planOf
  dsimp only
  split
  all_goals try (first | trivial | exact h)
  all_goals try (unfold plLoad; split <;> trivial)
  all_goals try (unfold plStore; split <;> (try split) <;> (try split) <;> trivial)
  case h_3 => split <;> trivial
  case h_4 => repeat' split
              all_goals (first | trivial | exact h)
  case h_6 => split <;> trivial
  case h_7 =>
    unfold plBuildSlice
    split
    · split
      · split
        · cases (ownAt ops o || inDst cf.own o)
          · trivial
          · simp only [cond_true]; split
            · exact h
            · trivial
        · trivial
      · trivial
    · trivial
  case h_10 => split <;> trivial
  case h_13 => split <;> trivial
  case h_14 => split <;> trivial
  case h_15 => split <;> trivial
  case h_16 =>
    unfold plMake
    split
    · split
      · split
        · split
          · cases inDst cf.dat o
            · exact h
            · trivial
          · trivial
        · trivial
      · trivial
    · trivial
  case h_18 => split <;> trivial
  case h_19 => split <;> trivial
  case h_22 => repeat' split
               all_goals trivial
  case h_23 =>
    split
    · split
      · trivial
      · trivial
      · trivial
      · split
        · unfold plAppend; repeat' split
          all_goals (first | trivial | exact h)
        · trivial
      · trivial
    · split
      · split
        · split
          · trivial
          · split
            · split
              · unfold plCall; dsimp only; split <;> trivial
              · unfold plCallN; split
                · split
                  · exact h
                  · trivial
                · trivial
              · trivial
            · unfold plCall; dsimp only; split <;> trivial
        · trivial
      · trivial
    · trivial

/-- The slots behind a value's coming. -/
def putF (d : Option Nat) (v : AVal) (g : Nat → AVal) : Nat → AVal :=
  match d with
  | some d => fun s => if d = s then v else g s
  | none => g

def dstOk (d : Option Nat) (n : Nat) : Prop :=
  match d with
  | some d => d < n
  | none => True

theorem putDst_some {o : Oper} {n : Nat} {v : AVal} {tm tm' : Tm} (h : putDst o n v tm = some tm') : get tm' = putF o.dst v (get tm) ∧ dstOk o.dst n := by
  unfold putDst at h
  split at h
  · rename_i d hd
    rw [hd]
    cases hb : Nat.ble (d + 1) n with
    | false => rw [hb] at h; cases h
    | true =>
      rw [hb] at h; simp only [cond_true, Option.some.injEq] at h; subst h
      refine ⟨?_, Nat.le_of_ble_eq_true hb⟩
      funext s
      simp only [get, putF]
      cases e : Nat.beq d s with
      | true => rw [if_pos (Nat.eq_of_beq_eq_true e)]; rfl
      | false => rw [if_neg (by rintro rfl; simp at e)]; rfl
  · rename_i hd
    rw [hd]
    injection h with h; subst h; exact ⟨rfl, trivial⟩

theorem dst_put {o : Oper} {n : Nat} {v : AVal} {tm : Tm} (h : dstOk o.dst n) : ∃ tm', putDst o n v tm = some tm' := by
  unfold putDst
  unfold dstOk at h
  split
  · rename_i d hd
    rw [hd] at h
    rw [Nat.ble_eq_true_of_le h]; exact ⟨_, rfl⟩
  · exact ⟨_, rfl⟩

theorem putF_comm {x y : Option Nat} {v u : AVal} {g : Nat → AVal} (h : ∀ d, x = some d → y ≠ some d) : putF y u (putF x v g) = putF x v (putF y u g) := by
  cases x with
  | none => rfl
  | some d => cases y with
    | none => rfl
    | some e =>
      have hne : d ≠ e := fun he => h d rfl (he ▸ rfl)
      funext s
      simp only [putF]
      split <;> split <;> first | rfl | (subst_vars; exact absurd rfl hne)

/-- Whether an operation is wanted. -/
def wantF (ops : Array Oper) (o : Oper) (g : Nat → AVal) : Option Bool :=
  match o.guard with
  | none => some true
  | some (j, want) => match ops[j]? with
    | some oj => match oj.dst with
      | some s => match g s with
        | .d (.v (.bool t)) => some (if t = true then want else !want)
        | .tup [] => some false
        | _ => none
      | none => none
    | none => none

theorem guardK_want {A : Type} {ops : Array Oper} {o : Oper} {tm : Tm} {f : Bool → Tm → Option A} {r : A} (h : guardK ops o tm f = some r) :
    ∃ want tm', f want tm' = some r ∧ wantF ops o (get tm) = some want ∧ get tm' = get tm := by
  unfold guardK at h
  split at h
  · rename_i hg; exact ⟨true, tm, h, by simp [wantF, hg], rfl⟩
  · rename_i j want hg
    split at h
    · rename_i oj hj
      split at h
      · rename_i s hs
        split at h
        · rename_i t ht
          have hset : ∀ (c : Bool), t = c → get ((s, b c) :: tm) = get tm := by
            intro c hc; subst hc
            funext s'
            simp only [get]
            cases e : Nat.beq s s' with
            | true => have := Nat.eq_of_beq_eq_true e; subst this; rw [cond_true, ht]; rfl
            | false => rfl
          split at h
          · rename_i htt; exact ⟨want, _, h, by simp [wantF, hg, hj, hs, ht, htt], hset _ htt⟩
          · rename_i htt; exact ⟨!want, _, h, by simp [wantF, hg, hj, hs, ht, htt], hset _ (by simpa using htt)⟩
        · rename_i ht; exact ⟨false, _, h, by simp [wantF, hg, hj, hs, ht], rfl⟩
        · cases h
      · cases h
    · cases h

/-- One operation. -/
structure StepG (P : Program) (X : Orc) (cf : Cf) (ops : Array Oper) (n nid : Nat) (i : Nat) (o : Oper) (fp : Fp) (g : Nat → AVal) (H : Heap) (g' : Nat → AVal) (H' : Heap) : Prop where
  dst : dstOk o.dst n
  room : nid + i < H.length
  did : (wantF ops o g = some true ∧ fp = (planOf P X cf ops o (evf g) (nid + i)).fp ∧ ∃ v, (planOf P X cf ops o (evf g) (nid + i)).At H v H' ∧ g' = putF o.dst v g) ∨
    (wantF ops o g = some false ∧ fp = ⟨[], []⟩ ∧ H' = H ∧ g' = putF o.dst (.tup []) g)

theorem StepG.length {X : Orc} {cf : Cf} {ops : Array Oper} {n nid i : Nat} {o : Oper} {fp : Fp} {g g' : Nat → AVal} {H' : Heap} (h : StepG P X cf ops n nid i o fp g H g' H') : H'.length = H.length := by
  rcases h.did with ⟨_, _, v, h1, _⟩ | ⟨_, _, h1, _⟩
  · exact (h1.self (planOf_par ..) (planOf_room h.room)).1
  · rw [h1]

theorem putF_look {ops : Array Oper} {o : Oper} {d : Option Nat} {v : AVal} {g : Nat → AVal} (h : ∀ t, d = some t → t ∉ o.looksAt ops) :
    (∀ x ∈ o.op.operands, evf (putF d v g) x = evf g x) ∧ wantF ops o (putF d v g) = wantF ops o g := by
  cases d with
  | none => exact ⟨fun _ _ => rfl, rfl⟩
  | some t =>
    have h := h t rfl
    refine ⟨fun x hx => ?_, ?_⟩
    · cases x with
      | tmp s =>
        simp only [evf, putF]
        rw [if_neg]
        rintro rfl
        exact h (List.mem_append_left _ (List.mem_filterMap.2 ⟨.tmp t, by simpa using hx, rfl⟩))
      | _ => rfl
    · unfold wantF
      split
      · rfl
      · rename_i j want hg
        split
        · rename_i oj hj
          split
          · rename_i s hs
            have : t ≠ s := by
              rintro rfl
              exact h (List.mem_append_right _ (by rw [hg]; simp [hj, hs]))
            simp only [putF, if_neg this]
          · rfl
        · rfl

theorem apartFp_nil (x : Fp) : apartFp x ⟨[], []⟩ = true := by simp [apartFp]
theorem apartFp_nil' (x : Fp) : apartFp ⟨[], []⟩ x = true := by simp [apartFp]

theorem StepG.swap {X : Orc} {cf : Cf} {ops : Array Oper} {n nid i j : Nat} {x y : Oper} {fx fy : Fp} {g g1 g2 : Nat → AVal} {H1 H2 : Heap}
    (h1 : StepG P X cf ops n nid i x fx g H g1 H1) (h2 : StepG P X cf ops n nid j y fy g1 H1 g2 H2) (ht : x.apart ops y = true) (hf : apartFp fx fy = true) :
    ∃ g1' H1', StepG P X cf ops n nid j y fy g H g1' H1' ∧ StepG P X cf ops n nid i x fx g1' H1' g2 H2 := by
  obtain ⟨a1, a2, a3⟩ := Oper.apart_spec ht
  have l1 := h1.length
  have rj : nid + j < H.length := by rw [← l1]; exact h2.room
  rcases h1.did with ⟨w1, e1, v, p1, q1⟩ | ⟨w1, e1, p1, q1⟩ <;> rcases h2.did with ⟨w2, e2, u, p2, q2⟩ | ⟨w2, e2, p2, q2⟩
  · subst q1 q2
    obtain ⟨b1, b2⟩ := putF_look (v := v) (g := g) a1
    obtain ⟨b3, b4⟩ := putF_look (v := u) (g := g) a3
    rw [planOf_agree b1] at e2 p2
    rw [b2] at w2
    rw [e1, e2] at hf
    obtain ⟨H1', s1, s2, s3⟩ := Plan.swap (planOf_par ..) (planOf_par ..) p1 p2 (planOf_room h1.room) (planOf_room rj) hf
    refine ⟨putF y.dst u g, H1', ⟨h2.dst, rj, .inl ⟨w2, e2, u, s1, rfl⟩⟩, ⟨h1.dst, by rw [s3]; exact h1.room, .inl ⟨by rw [b4]; exact w1, by rw [planOf_agree b3]; exact e1, v, by rw [planOf_agree b3]; exact s2, ?_⟩⟩⟩
    exact putF_comm a2
  · subst q1 q2 p2
    obtain ⟨b1, b2⟩ := putF_look (v := v) (g := g) a1
    obtain ⟨b3, b4⟩ := putF_look (v := .tup []) (g := g) a3
    rw [b2] at w2
    refine ⟨putF y.dst (.tup []) g, H, ⟨h2.dst, rj, .inr ⟨w2, e2, rfl, rfl⟩⟩, ⟨h1.dst, h1.room, .inl ⟨by rw [b4]; exact w1, by rw [planOf_agree b3]; exact e1, v, by rw [planOf_agree b3]; exact p1, ?_⟩⟩⟩
    exact putF_comm a2
  · subst q1 q2 p1
    obtain ⟨b1, b2⟩ := putF_look (v := .tup []) (g := g) a1
    obtain ⟨b3, b4⟩ := putF_look (v := u) (g := g) a3
    rw [planOf_agree b1] at e2 p2
    rw [b2] at w2
    refine ⟨putF y.dst u g, H2, ⟨h2.dst, rj, .inl ⟨w2, e2, u, p2, rfl⟩⟩, ⟨h1.dst, ?_, .inr ⟨by rw [b4]; exact w1, e1, rfl, ?_⟩⟩⟩
    · rw [h2.length]; exact h1.room
    · exact putF_comm a2
  · subst q1 q2 p1 p2
    obtain ⟨b1, b2⟩ := putF_look (v := .tup []) (g := g) a1
    obtain ⟨b3, b4⟩ := putF_look (v := .tup []) (g := g) a3
    rw [b2] at w2
    refine ⟨putF y.dst (.tup []) g, _, ⟨h2.dst, rj, .inr ⟨w2, e2, rfl, rfl⟩⟩, ⟨h1.dst, h1.room, .inr ⟨by rw [b4]; exact w1, e1, rfl, ?_⟩⟩⟩
    exact putF_comm a2

abbrev Ops3 := List (Nat × Oper × Fp)

inductive RunT (P : Program) (X : Orc) (cf : Cf) (ops : Array Oper) (n nid : Nat) : Ops3 → (Nat → AVal) → Heap → (Nat → AVal) → Heap → Prop
  | nil (g : Nat → AVal) (H : Heap) : RunT P X cf ops n nid [] g H g H
  | cons {i : Nat} {o : Oper} {fp : Fp} {l : Ops3} {g g1 g2 : Nat → AVal} {H H1 H2 : Heap} : StepG P X cf ops n nid i o fp g H g1 H1 → RunT P X cf ops n nid l g1 H1 g2 H2 → RunT P X cf ops n nid ((i, o, fp) :: l) g H g2 H2

theorem RunT.front {X : Orc} {cf : Cf} {ops : Array Oper} {n nid : Nat} {x : Nat × Oper × Fp} {post : Ops3} : ∀ {pre : Ops3} {g g2 : Nat → AVal} {H H2 : Heap}, RunT P X cf ops n nid (pre ++ x :: post) g H g2 H2 →
    (∀ p ∈ pre, p.2.1.apart ops x.2.1 = true ∧ apartFp p.2.2 x.2.2 = true) → RunT P X cf ops n nid (x :: (pre ++ post)) g H g2 H2
  | [], _, _, _, _, h, _ => h
  | p :: pre, g, g2, H, H2, h, ha => by
    cases h with
    | cons h1 h2 =>
      have ih := RunT.front h2 fun q hq => ha q (by simp [hq])
      cases ih with
      | cons h3 h4 =>
        obtain ⟨a, b⟩ := ha _ (List.mem_cons_self ..)
        obtain ⟨g1', H1', s1, s2⟩ := h1.swap h3 a b
        exact .cons s1 (.cons s2 h4)

/-- Two operations: the one waits for the other, or they are apart. -/
def Cond2 (ops : Array Oper) (bef : Array Nat) (p q : Nat × Oper × Fp) : Prop :=
  (bef.getD q.1 0).testBit p.1 = true ∨ (p.2.1.apart ops q.2.1 = true ∧ apartFp p.2.2 q.2.2 = true)

theorem drawOps_run {A : Type} {X : Orc} {cf : Cf} {ops : Array Oper} {bef : Array Nat} {n nid : Nat} {f : Tm → Heap → Option A} {r : A} : ∀ {rest : List (Nat × Oper)} {done : Ops3} {tm : Tm} {H : Heap},
    (∀ p ∈ rest, nid + p.1 < H.length) → drawOps P X cf ops bef n nid rest done tm H f = some r →
    ∃ (l : Ops3) (tm2 : Tm) (H2 : Heap), l.map (fun p => (p.1, p.2.1)) = rest ∧ RunT P X cf ops n nid l (get tm) H (get tm2) H2 ∧ f tm2 H2 = some r ∧
      l.Pairwise (Cond2 ops bef) ∧ ∀ p ∈ done, ∀ q ∈ l, Cond2 ops bef p q
  | [], done, tm, H, _, h => ⟨[], tm, H, rfl, .nil _ _, h, .nil, by simp⟩
  | (i, o) :: rest, done, tm, H, hroom, h => by
    simp only [drawOps] at h
    obtain ⟨want, tm', h, hw, hg⟩ := guardK_want h
    have hr := hroom (i, o) (by simp)
    dsimp only at hr
    split at h
    · rename_i hwt
      subst hwt
      split at h
      · rename_i hdone
        have hpar := planOf_par P X cf ops o (ev tm') (nid + i)
        have e := Plan.run_bind hpar H (fun v H' => some (v, H')) (fun p => match putDst o n p.1 tm' with
          | some tm2 => drawOps P X cf ops bef n nid rest ((i, o, (planOf P X cf ops o (ev tm') (nid + i)).fp) :: done) tm2 p.2 f
          | none => none)
        simp only [Option.bind_some] at e
        obtain ⟨⟨v, H'⟩, h1, h2⟩ := some_of_bind (e.trans h)
        dsimp only at h2
        have hev : ev tm' = evf (get tm) := by rw [ev_evf, hg]
        split at h2
        · rename_i tm2 hput
          obtain ⟨hp1, hp2⟩ := putDst_some hput
          rw [hev] at h1 h2 hdone
          have hst : StepG P X cf ops n nid i o (planOf P X cf ops o (evf (get tm)) (nid + i)).fp (get tm) H (get tm2) H' :=
            ⟨hp2, hr, .inl ⟨hw, rfl, v, h1, by rw [hp1, hg]⟩⟩
          obtain ⟨l, tm3, H3, e1, r1, f1, p1, d1⟩ := drawOps_run (fun p hp => by rw [hst.length]; exact hroom p (by simp [hp])) h2
          refine ⟨_ :: l, tm3, H3, by simp [e1], .cons hst r1, f1, .cons (fun q hq => d1 _ (by simp) q hq) p1, fun p hp q hq => ?_⟩
          rcases List.mem_cons.1 hq with rfl | hq
          · have := List.all_eq_true.1 hdone p hp
            simpa [Cond2, apartTmp] using this
          · exact d1 p (by simp [hp]) q hq
        · cases h2
      · cases h
    · rename_i hwf
      have hwf : want = false := by simpa using hwf
      subst hwf
      split at h
      · rename_i hdone
        split at h
        · rename_i tm2 hput
          obtain ⟨hp1, hp2⟩ := putDst_some hput
          have hst : StepG P X cf ops n nid i o ⟨[], []⟩ (get tm) H (get tm2) H :=
            ⟨hp2, hr, .inr ⟨hw, rfl, rfl, by rw [hp1, hg]⟩⟩
          obtain ⟨l, tm3, H3, e1, r1, f1, p1, d1⟩ := drawOps_run (fun p hp => hroom p (by simp [hp])) h
          refine ⟨_ :: l, tm3, H3, by simp [e1], .cons hst r1, f1, .cons (fun q hq => d1 _ (by simp) q hq) p1, fun p hp q hq => ?_⟩
          rcases List.mem_cons.1 hq with rfl | hq
          · have := List.all_eq_true.1 hdone p hp
            simp only [Bool.or_eq_true] at this
            exact this.imp id fun h => ⟨h, apartFp_nil _⟩
          · exact d1 p (by simp [hp]) q hq
        · cases h
      · cases h
end Go.Eng

namespace Go.Eng
open Go

variable {P : Program} {K : KMap} {β κ : Nat → Nat} {H : Heap} {w : World} {Fr : Nat → Prop}

theorem Does.wp {o : Oper} {a : Act} {R : Value → World → Prop} {N : Act → World → Prop} {Q : Exit → Act → World → Prop} (h : Does P o a w R) (hn : ∀ u w', R u w' → N (a.put o.dst u) w') : o.wp P a w N Q := by
  unfold Oper.wp
  rcases h with ⟨u, w', h1, h2⟩ | ⟨w', h1, h2⟩ | ⟨f, args, w', h1, h2⟩
  · rw [h1]; exact hn _ _ h2
  · rw [h1]; exact hn _ _ h2
  · rw [h1, Oper.upon_enter]
    refine h2.mono fun e w2 he => ?_
    obtain ⟨u, rfl, hr⟩ := he
    exact hn _ _ hr

theorem wantF_sound {ops : Array Oper} {o : Oper} {tm : Tm} {a : Act} {want : Bool} (h : wantF ops o (get tm) = some want) (hf : FR K β κ H tm a.tmps) : Region.wanted o (yielded ops a.tmps) = want := by
  unfold wantF at h
  split at h
  · rename_i hg
    injection h with h; subst h
    simp [Region.wanted, hg]
  · rename_i j want' hg
    split at h
    · rename_i oj hj
      split at h
      · rename_i s hs
        split at h
        · rename_i t ht
          have hv := hf s
          rw [ht] at hv
          have hv := hv.dv
          have hy : yielded ops a.tmps j = some t := by
            have hget : a.tmps[s]? = some (.bool t) := by
              rw [Array.getD_eq_getD_getElem?] at hv
              cases e : a.tmps[s]? with
              | none => rw [e] at hv; simp [undef] at hv
              | some x => rw [e] at hv; simp at hv; rw [hv]
            unfold yielded
            simp [hj, hs, hget]
          injection h with h; subst h
          cases t <;> cases want' <;> simp [Region.wanted, hg, hy]
        · rename_i ht
          have hv := hf s
          rw [ht] at hv
          have hy := yielded_undef hj hs hv.undef_val
          injection h with h; subst h
          simp [Region.wanted, hg, hy]
        · cases h
      · cases h
    · cases h

/-- How far the region has come. -/
structure Mid (Fr : Nat → Prop) (K0 : KMap) (β0 κ0 : Nat → Nat) (H0 : Heap) (w0 : World) (n : Nat) (K : KMap) (β κ : Nat → Nat) (H : Heap) (tm : Tm) (a : Act) (w : World) : Prop where
  sr : SR Fr K β κ H w
  ext : Ext K0 β0 κ0 H0 K β κ H
  knew : KNew Fr K0 K
  keep : Keep Fr w0 w
  slots : FR K β κ H tm a.tmps
  size : n ≤ a.tmps.size
  defers : a.defers = []

/-- Where the region comes to. -/
def MidQ (Fr : Nat → Prop) (K0 : KMap) (β0 κ0 : Nat → Nat) (H0 : Heap) (w0 : World) (n : Nat) (gF : Nat → AVal) (HF : Heap) : Exit → Act → World → Prop := fun e a w =>
  e = .normal ∧ ∃ K β κ tm, Mid Fr K0 β0 κ0 H0 w0 n K β κ HF tm a w ∧ get tm = gF

theorem Mid.put {K0 : KMap} {β0 κ0 : Nat → Nat} {H0 : Heap} {w0 : World} {n : Nat} {tm : Tm} {a : Act} (m : Mid Fr K0 β0 κ0 H0 w0 n K β κ H tm a w) {v : AVal} {H' : Heap} {u : Value} {w' : World} (hp : Post Fr K β κ H w v H' u w')
    {o : Oper} {tm' : Tm} (ho : putDst o n v tm = some tm') : ∃ K' β' κ', Mid Fr K0 β0 κ0 H0 w0 n K' β' κ' H' tm' (a.put o.dst u) w' := by
  obtain ⟨K', β', κ', s1, e1, n1, k1, r1⟩ := hp
  obtain ⟨h1, h2, h3⟩ := putDst_sound ho (m.slots.mono e1) r1 m.size
  exact ⟨K', β', κ', s1, m.ext.trans e1, m.knew.trans m.ext.kle n1, m.keep.trans k1, h1, by rw [h2]; exact m.size, by rw [h3]; exact m.defers⟩

theorem step_mid {X : Orc} (hX : OrcOk P X) {cf : Cf} {ops : Array Oper} {n nid i : Nat} {o : Oper} {fp : Fp} {g' : Nat → AVal} {H' : Heap} {K0 : KMap} {β0 κ0 : Nat → Nat} {H0 : Heap} {w0 : World} {tm : Tm} {a : Act}
    (m : Mid Fr K0 β0 κ0 H0 w0 n K β κ H tm a w) (hs : StepG P X cf ops n nid i o fp (get tm) H g' H') (ho : ops[i]? = some o) {N : Act → World → Prop} {Q : Exit → Act → World → Prop}
    (hN : ∀ K' β' κ' tm' a' w', Mid Fr K0 β0 κ0 H0 w0 n K' β' κ' H' tm' a' w' → get tm' = g' → N a' w') : wpOp P ops Q i N a w := by
  unfold wpOp
  rw [ho]
  dsimp only
  rcases hs.did with ⟨hw, _, v, h1, h2⟩ | ⟨hw, _, rfl, h2⟩
  · rw [if_pos (wantF_sound hw m.slots)]
    refine .inl ?_
    rw [← ev_evf] at h1
    obtain ⟨tm', ht⟩ := dst_put (v := v) (tm := tm) hs.dst
    have hg : get tm' = g' := by rw [(putDst_some ht).1, h2]
    refine (planOf_sound hX m.sr m.slots h1).wp fun u w' hp => ?_
    obtain ⟨K', β', κ', m'⟩ := m.put hp ht
    exact hN _ _ _ tm' _ _ m' hg
  · rw [if_neg (by rw [wantF_sound hw m.slots]; simp)]
    obtain ⟨tm', ht⟩ := dst_put (v := .tup []) (tm := tm) hs.dst
    have hg : get tm' = g' := by rw [(putDst_some ht).1, h2]
    obtain ⟨K', β', κ', m'⟩ := m.put (.same m.sr .undef) ht
    exact hN _ _ _ tm' _ _ m' hg

structure Rem (ops : Array Oper) (listed : Array Bool) (l : Ops3) : Prop where
  size : listed.size = ops.size
  closed : Closed ops listed
  sorted : (l.map (·.1)).Pairwise (· < ·)
  mem : ∀ p ∈ l, ops[p.1]? = some p.2.1
  unl : ∀ i, listed.getD i true = false ↔ i ∈ l.map (·.1)
  cond : l.Pairwise (Cond2 ops (Region.before ops))

theorem getD_false_true {listed : Array Bool} {i : Nat} (h : listed.getD i false = true) : listed.getD i true = true := by
  rw [Array.getD_eq_getD_getElem?] at *
  cases e : listed[i]? with
  | none => rw [e] at h; simp at h
  | some b => rw [e] at h; simpa using h

theorem getD_true_false {listed : Array Bool} {i : Nat} (hl : i < listed.size) (h : listed.getD i true = true) : listed.getD i false = true := by
  rw [Array.getD_eq_getD_getElem?] at *
  rw [Array.getElem?_eq_getElem hl] at *
  simpa using h

theorem Rem.step {ops : Array Oper} {listed : Array Bool} {pre post : Ops3} {x : Nat × Oper × Fp} (r : Rem ops listed (pre ++ x :: post)) (hr : x.1 ∈ Region.ready .any ops listed) :
    Rem ops (listed.setIfInBounds x.1 true) (pre ++ post) ∧ ∀ p ∈ pre, p.2.1.apart ops x.2.1 = true ∧ apartFp p.2.2 x.2.2 = true := by
  have hsub : (pre ++ post).Sublist (pre ++ x :: post) := List.Sublist.append (List.Sublist.refl _) (List.sublist_cons_self _ _)
  rw [mem_ready] at hr
  obtain ⟨h0, o, ho, hall⟩ := hr
  have hlt : x.1 < listed.size := by rw [r.size]; exact (Array.getElem?_eq_some_iff.1 ho).1
  have hxo := r.mem x (by simp)
  have hsorted := r.sorted
  simp only [List.map_append, List.map_cons, List.pairwise_append, List.pairwise_cons, List.mem_cons, forall_eq_or_imp] at hsorted
  obtain ⟨hs1, ⟨hs2, hs3⟩, hs4⟩ := hsorted
  refine ⟨⟨by simp [r.size], fun i oi hi hl e he hb => ?_, r.sorted.sublist (hsub.map _), fun p hp => r.mem p (hsub.subset hp), fun i => ?_, r.cond.sublist hsub⟩, fun p hp => ?_⟩
  · by_cases hix : i = x.1
    · subst hix
      rw [ho] at hi; injection hi with hi; subst hi
      exact getD_set_true (hall e (by simpa using he) hb)
    · rw [getD_set_ne true (Ne.symm hix)] at hl
      exact getD_set_true (r.closed i oi hi hl e he hb)
  · by_cases hix : x.1 = i
    · subst hix
      have : (listed.setIfInBounds x.1 true).getD x.1 true = true := getD_false_true (by simp [Array.getD_eq_getD_getElem?, hlt])
      rw [this]
      simp only [Bool.true_eq_false, List.map_append, List.mem_append, false_iff, not_or]
      exact ⟨fun h => Nat.lt_irrefl _ ((hs4 _ h).1), fun h => Nat.lt_irrefl _ (hs2 _ h)⟩
    · rw [getD_set_ne true hix, r.unl i]
      simp only [List.map_append, List.map_cons, List.mem_append, List.mem_cons]
      constructor
      · rintro (h | h | h)
        · exact .inl h
        · exact absurd h.symm hix
        · exact .inr h
      · rintro (h | h)
        · exact .inl h
        · exact .inr (.inr h)
  · have hc := (List.pairwise_append.1 r.cond).2.2 p hp x (by simp)
    rcases hc with hc | hc
    · exfalso
      have := ahead_listed r.closed r.size x.1 o ho (fun e he hb => hall e (by simpa using he) hb) p.1 hc
      have h2 := (r.unl p.1).2 (by simp; exact .inl ⟨_, _, hp⟩)
      rw [getD_false_true this] at h2; cases h2
    · exact hc

theorem drawn_any {X : Orc} (hX : OrcOk P X) {cf : Cf} {ops : Array Oper} (hok : okEdges ops.toList 0 = true) {n nid : Nat} {gF : Nat → AVal} {HF : Heap} {K0 : KMap} {β0 κ0 : Nat → Nat} {H0 : Heap} {w0 : World} :
    ∀ (m : Nat) (l : Ops3) (listed : Array Bool) (K : KMap) (β κ : Nat → Nat) (H : Heap) (tm : Tm) (a : Act) (w : World), l.length = m → Rem ops listed l → Mid Fr K0 β0 κ0 H0 w0 n K β κ H tm a w → RunT P X cf ops n nid l (get tm) H gF HF →
      wpAny P .any ops (MidQ Fr K0 β0 κ0 H0 w0 n gF HF) m listed a w
  | 0, l, listed, K, β, κ, H, tm, a, w, hl, hr, hm, hrun => by
    have : l = [] := List.length_eq_zero_iff.1 hl
    subst this
    cases hrun
    refine ⟨?_, rfl, K, β, κ, tm, hm, rfl⟩
    rw [List.eq_nil_iff_forall_not_mem]
    intro i hi
    have := (hr.unl i).1 (mem_ready.1 hi).1
    simp at this
  | m + 1, l, listed, K, β, κ, H, tm, a, w, hl, hr, hm, hrun => by
    refine ⟨fun hnil => ?_, fun i hi => ?_⟩
    · exfalso
      cases l with
      | nil => simp at hl
      | cons x l =>
        have hmem := hr.mem x (by simp)
        have : x.1 ∈ Region.ready .any ops listed := by
          rw [mem_ready]
          refine ⟨(hr.unl x.1).2 (by simp), x.2.1, hmem, fun e he hb => ?_⟩
          have hlt := okEdges_spec hok x.1 x.2.1 (by simpa using hmem) e (by simpa using he) hb
          have hsz := (Array.getElem?_eq_some_iff.1 hmem).1
          refine getD_true_false (by rw [hr.size]; omega) ?_
          cases hg : listed.getD e.on true with
          | true => rfl
          | false =>
            exfalso
            have h1 := (hr.unl e.on).1 hg
            have h2 := hr.sorted
            simp only [List.map_cons, List.pairwise_cons, List.mem_cons] at h1 h2
            rcases h1 with h1 | h1
            · omega
            · have := h2.1 _ h1; omega
        rw [hnil] at this; cases this
    · have h1 := (hr.unl i).1 (mem_ready.1 hi).1
      obtain ⟨x, hx, rfl⟩ := List.mem_map.1 h1
      obtain ⟨pre, post, rfl⟩ := List.append_of_mem hx
      obtain ⟨hr2, hap⟩ := hr.step hi
      have hrun2 := hrun.front hap
      cases hrun2 with
      | cons h3 h4 =>
        refine step_mid hX hm h3 (hr.mem _ hx) fun K' β' κ' tm' a' w' hm' hg => ?_
        subst hg
        exact drawn_any hX hok m _ _ K' β' κ' _ tm' a' w' (by simp at hl ⊢; omega) hr2 hm' h4

theorem keep_drawn (Fr : Nat → Prop) (w : World) (n : Nat) : Keep Fr w { w with drawn := n } := ⟨rfl, rfl, rfl, Nat.le_refl _, fun _ _ => rfl, fun _ c T fz h => ⟨c, T, fz, h, rfl⟩⟩

theorem SR.drawn (s : SR Fr K β κ H w) (n : Nat) : SR Fr K β κ H { w with drawn := n } := ⟨s.wk, fun id x h => by
  have := s.blk id x h
  cases x <;> exact this, s.inj, s.nfr, s.frsz⟩

/-- More blocks that are none yet. -/
theorem SR.addGone (s : SR Fr K β κ H w) (m : Nat) : SR Fr K β κ (H ++ List.replicate m .gone) w ∧ Ext K β κ H K β κ (H ++ List.replicate m .gone) := by
  have hget : ∀ (id : Nat) (x : ABlk), (H ++ List.replicate m ABlk.gone)[id]? = some x → H[id]? = some x ∨ x = .gone := by
    intro id x h
    rw [List.getElem?_append] at h
    split at h
    · exact .inl h
    · rw [List.getElem?_replicate] at h
      split at h
      · injection h with h; exact .inr h.symm
      · cases h
  have hold : ∀ (id : Nat) (x : ABlk), H[id]? = some x → (H ++ List.replicate m ABlk.gone)[id]? = some x := by
    intro id x h
    rw [List.getElem?_append_left (List.getElem?_eq_some_iff.1 h).1]; exact h
  have hE : Ext K β κ H K β κ (H ++ List.replicate m ABlk.gone) := by
    refine ⟨.refl _, fun id ⟨cs, h⟩ => ⟨⟨cs, hold _ _ h⟩, rfl⟩, fun id sz cv n h => ?_, fun id x sz rows' h1 h2 => ?_⟩
    · refine ⟨cv, n, ?_, .inl ⟨rfl, rfl, rfl, rfl⟩⟩
      rw [curOf_eq] at h ⊢
      cases e : H[id]? with
      | none => rw [e] at h; cases h
      | some x => rw [e] at h; rw [hold _ _ e]; exact h
    · rw [hold _ _ h1] at h2; injection h2 with h2; exact .inr ⟨_, h2⟩
  refine ⟨⟨s.wk, fun id x h => ?_, fun i j x y hi hj hx hy e => ?_, fun id x h ho => ?_, s.frsz⟩, hE⟩
  · rcases hget id x h with h | rfl
    · exact BRel.mono hE rfl rfl (fun _ _ h => h) (fun _ _ h => h) (s.blk id x h)
    · trivial
  · rcases hget i x hi with hi | rfl
    · rcases hget j y hj with hj | rfl
      · exact s.inj i j x y hi hj hx hy e
      · exact absurd hy (by simp [owns])
    · exact absurd hx (by simp [owns])
  · rcases hget id x h with h | rfl
    · exact s.nfr id x h ho
    · exact absurd ho (by simp [owns])

/-- The region. -/
theorem drawn_region {A : Type} (hmix : P.follows .mixedOrders = true) {X : Orc} (hX : OrcOk P X) {cf : Cf} {ops : Array Oper} {id n : Nat} {tm : Tm} {f : Tm → Heap → Option A} {r : A} {a : Act}
    (hok : okEdges ops.toList 0 = true)
    (h : drawOps P X cf ops (Region.before ops) n H.length (ops.toList.zipIdx.map fun p => (p.2, p.1)) [] tm (H ++ List.replicate ops.size .gone) f = some r)
    (s : SR Fr K β κ H w) (hf : FR K β κ H tm a.tmps) (hn : n ≤ a.tmps.size) (hd : a.defers = []) :
    ∃ tmF HF, f tmF HF = some r ∧ (Code.region id ops true).wp P (MidQ Fr K β κ H w n (get tmF) HF) a w := by
  obtain ⟨s1, e1⟩ := s.addGone ops.size
  have hidx : ∀ p ∈ ops.toList.zipIdx.map (fun p => (p.2, p.1)), ops[p.1]? = some p.2 := by
    intro p hp
    obtain ⟨q, hq, rfl⟩ := List.mem_map.1 hp
    have := List.mem_zipIdx_iff_getElem?.1 hq
    simpa using this
  obtain ⟨l, tm2, H2, hl, hrun, hr, hpw, _⟩ := drawOps_run (fun p hp => by
    have := (Array.getElem?_eq_some_iff.1 (hidx p hp)).1
    simp; exact this) h
  refine ⟨tm2, H2, hr, ?_⟩
  have hlen : l.length = ops.size := by
    have := congrArg List.length hl
    simpa using this
  have hmap : l.map (·.1) = List.range ops.size := by
    have h1 := congrArg (List.map Prod.fst) hl
    simp only [List.map_map] at h1
    have h2 : (List.map (Prod.fst ∘ fun p : Nat × Oper × Fp => (p.1, p.2.1)) l) = l.map (·.1) := rfl
    rw [h2] at h1
    rw [h1]
    apply List.ext_getElem?
    intro i
    simp only [List.getElem?_map, List.getElem?_zipIdx, Function.comp]
    cases e : ops.toList[i]? with
    | none =>
      have := List.getElem?_eq_none_iff.1 e
      simp at this ⊢; omega
    | some x =>
      have := (List.getElem?_eq_some_iff.1 e).1
      simp at this
      simp [List.getElem?_range, this]
  have hrem : Rem ops (Array.replicate ops.size false) l := by
    refine ⟨by simp, fun i o hi hl' => ?_, by rw [hmap]; exact List.pairwise_lt_range, fun p hp => ?_, fun i => ?_, hpw⟩
    · have := (Array.getElem?_eq_some_iff.1 hi).1
      simp [Array.getD_eq_getD_getElem?, this] at hl'
    · have : (p.1, p.2.1) ∈ ops.toList.zipIdx.map (fun p => (p.2, p.1)) := by
        rw [← hl]; exact List.mem_map.2 ⟨p, hp, rfl⟩
      exact hidx _ this
    · rw [hmap, List.mem_range]
      rw [Array.getD_eq_getD_getElem?]
      by_cases hi : i < ops.size <;> simp [hi]
  refine wp_region_any hmix ?_
  have hmid : Mid Fr K β κ H w n K β κ (H ++ List.replicate ops.size .gone) tm a { w with drawn := w.drawn + 1 } :=
    ⟨s1.drawn _, e1, .refl _ _, keep_drawn _ _ _, hf.mono e1, hn, hd⟩
  exact drawn_any hX hok ops.size l _ K β κ _ tm a _ hlen hrem hmid hrun

theorem MidQ.tm {K0 : KMap} {β0 κ0 : Nat → Nat} {H0 : Heap} {w0 : World} {n : Nat} {tm : Tm} {HF : Heap} {e : Exit} {a : Act} (h : MidQ Fr K0 β0 κ0 H0 w0 n (get tm) HF e a w) :
    e = .normal ∧ ∃ K β κ, Mid Fr K0 β0 κ0 H0 w0 n K β κ HF tm a w := by
  obtain ⟨h1, K, β, κ, tm', m, hg⟩ := h
  exact ⟨h1, K, β, κ, m.sr, m.ext, m.knew, m.keep, fun s => by rw [← hg]; exact m.slots s, m.size, m.defers⟩

theorem step_fin {X : Orc} (hX : OrcOk P X) {cf : Cf} {ops : Array Oper} {n nid i : Nat} {o : Oper} {fp : Fp} {g' : Nat → AVal} {H' : Heap} {K0 : KMap} {β0 κ0 : Nat → Nat} {H0 : Heap} {w0 : World} {tm : Tm} {a : Act}
    (m : Mid Fr K0 β0 κ0 H0 w0 n K β κ H tm a w) (hs : StepG P X cf ops n nid i o fp (get tm) H g' H') (ho : ops[i]? = some o) {f0 : FuncId} {R : Ending → World → Prop} {fn : FuncId} {k : List Item} {rs : List RF} {rest : List Nat}
    (hN : ∀ K' β' κ' tm' a' w', Mid Fr K0 β0 κ0 H0 w0 n K' β' κ' H' tm' a' w' → get tm' = g' → Fin P f0 R ((base fn).at a' (.inRegion ops rest :: k)) rs w') : Fin P f0 R ((base fn).at a (.inRegion ops (i :: rest) :: k)) rs w := by
  rcases hs.did with ⟨hw, _, v, h1, h2⟩ | ⟨hw, _, rfl, h2⟩
  · rw [← ev_evf] at h1
    obtain ⟨tm', ht⟩ := dst_put (v := v) (tm := tm) hs.dst
    have hg : get tm' = g' := by rw [(putDst_some ht).1, h2]
    refine .does ho (wantF_sound hw m.slots) (planOf_sound hX m.sr m.slots h1) fun u w' hp => ?_
    obtain ⟨K', β', κ', m'⟩ := m.put hp ht
    exact hN _ _ _ tm' _ _ m' hg
  · obtain ⟨tm', ht⟩ := dst_put (v := .tup []) (tm := tm) hs.dst
    have hg : get tm' = g' := by rw [(putDst_some ht).1, h2]
    obtain ⟨K', β', κ', m'⟩ := m.put (.same m.sr .undef) ht
    exact .opSkip ho (wantF_sound hw m.slots) (hN _ _ _ tm' _ _ m' hg)

theorem ready_last {ops : Array Oper} {listed : Array Bool} {x : Nat × Oper × Fp} (hok : okEdges ops.toList 0 = true) (r : Rem ops listed [x]) (hx : x.1 + 1 = ops.size) : Region.ready .any ops listed = [x.1] := by
  unfold Region.ready
  rw [← hx, List.range_succ, List.filter_append]
  have hmem := r.mem x (by simp)
  have hun : listed.getD x.1 true = false := (r.unl x.1).2 (by simp)
  have hother : ∀ i, i < x.1 → listed.getD i true = true := by
    intro i hi
    cases e : listed.getD i true with
    | true => rfl
    | false =>
      have := (r.unl i).1 e
      simp at this; omega
  have h1 : (List.range x.1).filter (fun i => !listed.getD i true && ((ops[i]?).map (·.after.all fun e => !Region.binds .any e || listed.getD e.on false)).getD false) = [] := by
    rw [List.filter_eq_nil_iff]
    intro i hi
    rw [List.mem_range] at hi
    simp [hother i hi]
  rw [h1, List.nil_append, List.filter_cons_of_pos, List.filter_nil]
  have hall : (x.2.1.after.all fun e => !Region.binds .any e || listed.getD e.on false) = true := by
    rw [← Array.all_toList, List.all_eq_true]
    intro e he
    cases hb : Region.binds .any e with
    | false => rfl
    | true =>
      have hlt := okEdges_spec hok x.1 x.2.1 (by simpa using hmem) e he hb
      have := getD_true_false (by rw [r.size]; omega) (hother e.on (by omega))
      simp [this]
  simp only [hun, hmem, Option.map_some, Option.getD_some, hall, Bool.not_false, Bool.and_self]

/-- A region but for its last operation, which waits for all others. -/
theorem drawn_fin {X : Orc} (hX : OrcOk P X) {cf : Cf} {ops : Array Oper} (hok : okEdges ops.toList 0 = true) {n nid : Nat} {gF : Nat → AVal} {HF : Heap} {K0 : KMap} {β0 κ0 : Nat → Nat} {H0 : Heap} {w0 : World}
    {x0 : Nat × Oper × Fp} (hx0 : x0.1 + 1 = ops.size) (hb : ∀ p, p < x0.1 → ((Region.before ops).getD x0.1 0).testBit p = true)
    {f0 : FuncId} {R : Ending → World → Prop} {fn : FuncId} {k : List Item} {rs : List RF}
    (hN : ∀ K β κ tm a w, Mid Fr K0 β0 κ0 H0 w0 n K β κ HF tm a w → get tm = gF → Fin P f0 R ((base fn).at a (.inRegion ops [x0.1] :: k)) rs w) :
    ∀ (m : Nat) (l : Ops3) (listed : Array Bool) (K : KMap) (β κ : Nat → Nat) (H : Heap) (tm : Tm) (a : Act) (w : World) (t : Nat), l.length = m → Rem ops listed (l ++ [x0]) → Mid Fr K0 β0 κ0 H0 w0 n K β κ H tm a w → RunT P X cf ops n nid l (get tm) H gF HF →
      Fin P f0 R ((base fn).at a (.inRegion ops (Region.linearise.go .any ops (m + 1) t listed []) :: k)) rs w
  | 0, l, listed, K, β, κ, H, tm, a, w, t, hl, hr, hm, hrun => by
    have : l = [] := List.length_eq_zero_iff.1 hl
    subst this
    cases hrun
    have hrd := ready_last hok hr hx0
    have : Region.linearise.go .any ops 1 t listed [] = [x0.1] := by
      simp only [Region.linearise.go]
      change (match (Region.ready .any ops listed)[t % (Region.ready .any ops listed).length]? with
        | some i => [i].reverse
        | none => [].reverse) = _
      rw [hrd]; simp [Nat.mod_one]
    rw [this]
    exact hN K β κ tm a w hm rfl
  | m + 1, l, listed, K, β, κ, H, tm, a, w, t, hl, hr, hm, hrun => by
    have hne : Region.ready .any ops listed ≠ [] := by
      intro hnil
      cases l with
      | nil => simp at hl
      | cons x l =>
        have hmem := hr.mem x (by simp)
        have : x.1 ∈ Region.ready .any ops listed := by
          rw [mem_ready]
          refine ⟨(hr.unl x.1).2 (by simp), x.2.1, hmem, fun e he hb => ?_⟩
          have hlt := okEdges_spec hok x.1 x.2.1 (by simpa using hmem) e (by simpa using he) hb
          have hsz := (Array.getElem?_eq_some_iff.1 hmem).1
          refine getD_true_false (by rw [hr.size]; omega) ?_
          cases hg : listed.getD e.on true with
          | true => rfl
          | false =>
            exfalso
            have h1 := (hr.unl e.on).1 hg
            have h2 := hr.sorted
            simp only [List.cons_append, List.map_cons, List.pairwise_cons, List.mem_cons] at h1 h2
            rcases h1 with h1 | h1
            · omega
            · have := h2.1 _ h1; omega
        rw [hnil] at this; cases this
    rw [Region.linearise.go]
    change Fin P f0 R ((base fn).at a (.inRegion ops (match (Region.ready .any ops listed)[t % (Region.ready .any ops listed).length]? with
      | some i => Region.linearise.go .any ops (m + 1) (t / (Region.ready .any ops listed).length) (listed.setIfInBounds i true) [i]
      | none => [].reverse) :: k)) rs w
    cases hi : (Region.ready .any ops listed)[t % (Region.ready .any ops listed).length]? with
    | none =>
      exfalso
      have := List.getElem?_eq_none_iff.1 hi
      have h2 := Nat.mod_lt t (List.length_pos_iff.2 hne)
      omega
    | some i =>
      dsimp only
      rw [linearise_go_acc, List.reverse_singleton, List.singleton_append]
      have hir := List.mem_of_getElem? hi
      have h1 := (hr.unl i).1 (mem_ready.1 hir).1
      have hil : i ∈ l.map (·.1) := by
        simp only [List.map_append, List.mem_append, List.map_cons, List.map_nil, List.mem_singleton] at h1
        rcases h1 with h1 | rfl
        · exact h1
        · exfalso
          cases l with
          | nil => simp at hl
          | cons x l =>
            obtain ⟨_, o, ho, hall⟩ := mem_ready.1 hir
            have hlt : x.1 < x0.1 := by
              have := hr.sorted
              simp only [List.cons_append, List.map_cons, List.map_append, List.map_nil, List.pairwise_cons, List.mem_append, List.mem_singleton] at this
              exact this.1 _ (.inr rfl)
            have h3 := ahead_listed hr.closed hr.size x0.1 o ho (fun e he hb => hall e (by simpa using he) hb) x.1 (hb _ hlt)
            have h4 := (hr.unl x.1).2 (by simp)
            rw [getD_false_true h3] at h4; cases h4
      obtain ⟨x, hx, rfl⟩ := List.mem_map.1 hil
      obtain ⟨pre, post, rfl⟩ := List.append_of_mem hx
      rw [List.append_assoc, List.cons_append] at hr
      obtain ⟨hr2, hap⟩ := hr.step hir
      have hxm := hr.mem x (by simp)
      have hrun2 := hrun.front hap
      cases hrun2 with
      | cons h3 h4 =>
        refine step_fin hX hm h3 hxm fun K' β' κ' tm' a' w' hm' hg => ?_
        subst hg
        exact drawn_fin hX hok hx0 hb hN m (pre ++ post) _ K' β' κ' _ tm' a' w' _ (by simp at hl ⊢; omega) (by rw [List.append_assoc]; exact hr2) hm' h4

theorem peelB_spec {cf : Cf} {ops : List Oper} {bef : Array Nat} (h : peelB cf ops bef = true) : ∃ o, ops.getLast? = some o ∧ ∀ p, p < ops.length - 1 → (bef.getD (ops.length - 1) 0).testBit p = true := by
  unfold peelB at h
  split at h
  · rename_i o ho
    refine ⟨o, ho, ?_⟩
    split at h
    · split at h
      · simp only [Bool.and_eq_true] at h
        intro p hp
        exact List.all_eq_true.1 h.2 p (List.mem_range.2 hp)
      · cases h
    · cases h
  · cases h

theorem drawn_peel {A : Type} (hmix : P.follows .mixedOrders = true) {X : Orc} (hX : OrcOk P X) {cf : Cf} {ops : Array Oper} {id n : Nat} {tm : Tm} {f : Tm → Heap → Option A} {r : A} {a : Act}
    (hok : okEdges ops.toList 0 = true) (hpl : peelB cf ops.toList (Region.before ops) = true)
    (h : drawOps P X cf ops (Region.before ops) n H.length ((ops.toList.zipIdx.map fun p => (p.2, p.1)).take (ops.size - 1)) [] tm (H ++ List.replicate ops.size .gone) f = some r)
    (s : SR Fr K β κ H w) (hf : FR K β κ H tm a.tmps) (hn : n ≤ a.tmps.size) (hd : a.defers = [])
    {f0 : FuncId} {R : Ending → World → Prop} {fn : FuncId} {k : List Item} {rs : List RF}
    (hN : ∀ tm' H' a' w' K' β' κ', Mid Fr K β κ H w n K' β' κ' H' tm' a' w' → f tm' H' = some r → Fin P f0 R ((base fn).at a' (.inRegion ops [ops.size - 1] :: k)) rs w') :
    Fin P f0 R ((base fn).at a (.code (.region id ops true) :: k)) rs w := by
  obtain ⟨o0, ho0, hb⟩ := peelB_spec hpl
  have hpos : 0 < ops.size := by
    rcases Nat.eq_zero_or_pos ops.size with h0 | h0
    · exfalso
      have : ops = #[] := Array.eq_empty_of_size_eq_zero h0
      subst this; simp at ho0
    · exact h0
  have hol : ops[ops.size - 1]? = some o0 := by
    rw [List.getLast?_eq_getElem?] at ho0; simpa using ho0
  obtain ⟨s1, e1⟩ := s.addGone ops.size
  have hidx : ∀ p ∈ (ops.toList.zipIdx.map (fun p => (p.2, p.1))).take (ops.size - 1), ops[p.1]? = some p.2 := by
    intro p hp
    obtain ⟨q, hq, rfl⟩ := List.mem_map.1 (List.mem_of_mem_take hp)
    have := List.mem_zipIdx_iff_getElem?.1 hq
    simpa using this
  obtain ⟨l, tm2, H2, hl, hrun, hr, hpw, _⟩ := drawOps_run (fun p hp => by
    have := (Array.getElem?_eq_some_iff.1 (hidx p hp)).1
    simp; exact this) h
  have hlen : l.length = ops.size - 1 := by
    have := congrArg List.length hl
    simpa using this
  have hmap : l.map (·.1) = List.range (ops.size - 1) := by
    have h1 := congrArg (List.map Prod.fst) hl
    simp only [List.map_map] at h1
    have h2 : (List.map (Prod.fst ∘ fun p : Nat × Oper × Fp => (p.1, p.2.1)) l) = l.map (·.1) := rfl
    rw [h2] at h1
    rw [h1, List.map_take]
    apply List.ext_getElem?
    intro i
    rw [List.getElem?_take]
    simp only [List.getElem?_map, List.getElem?_zipIdx, Function.comp]
    by_cases hi : i < ops.size - 1
    · rw [if_pos hi, List.getElem?_range hi]
      have : i < ops.toList.length := by simp; omega
      simp [List.getElem?_eq_getElem this]
    · rw [if_neg hi]
      symm
      rw [List.getElem?_eq_none_iff]; simp; omega
  have hrem : Rem ops (Array.replicate ops.size false) (l ++ [(ops.size - 1, o0, ⟨[], []⟩)]) := by
    have hm2 : (l ++ [(ops.size - 1, o0, (⟨[], []⟩ : Fp))]).map (·.1) = List.range ops.size := by
      rw [List.map_append, hmap]
      have e : List.range (ops.size - 1 + 1) = List.range (ops.size - 1) ++ [ops.size - 1] := List.range_succ
      rw [show ops.size - 1 + 1 = ops.size by omega] at e
      rw [e]; rfl
    refine ⟨by simp, fun i o hi hl' => ?_, by rw [hm2]; exact List.pairwise_lt_range, fun p hp => ?_, fun i => ?_, ?_⟩
    · have := (Array.getElem?_eq_some_iff.1 hi).1
      simp [Array.getD_eq_getD_getElem?, this] at hl'
    · rcases List.mem_append.1 hp with hp | hp
      · have : (p.1, p.2.1) ∈ (ops.toList.zipIdx.map fun p => (p.2, p.1)).take (ops.size - 1) := by
          rw [← hl]; exact List.mem_map.2 ⟨p, hp, rfl⟩
        exact hidx _ this
      · simp only [List.mem_singleton] at hp
        subst hp; exact hol
    · rw [hm2, List.mem_range]
      rw [Array.getD_eq_getD_getElem?]
      by_cases hi : i < ops.size <;> simp [hi]
    · refine List.pairwise_append.2 ⟨hpw, by simp, fun p hp q hq => ?_⟩
      simp only [List.mem_singleton] at hq
      subst hq
      have : p.1 ∈ l.map (·.1) := List.mem_map.2 ⟨p, hp, rfl⟩
      rw [hmap, List.mem_range] at this
      exact .inl (by simpa using hb p.1 (by simpa using this))
  have hmid : Mid Fr K β κ H w n K β κ (H ++ List.replicate ops.size .gone) tm a { w with drawn := w.drawn + 1 } :=
    ⟨s1.drawn _, e1, .refl _ _, keep_drawn _ _ _, hf.mono e1, hn, hd⟩
  refine .step (rs' := rs) (fun cs => step_region_draw) ?_
  have hsch : ∀ t, Region.schedule (P.follows .mixedOrders) ops t = Region.linearise.go .any ops (ops.size - 1 + 1) t (Array.replicate ops.size false) [] := by
    intro t
    simp only [Region.schedule, hmix, Bool.true_or, if_true, Region.linearise]
    rw [Nat.sub_add_cancel hpos]
  rw [hsch]
  exact drawn_fin (x0 := (ops.size - 1, o0, ⟨[], []⟩)) hX hok (by dsimp only; omega) (fun p hp => by simpa using hb p (by simpa using hp))
    (fun K' β' κ' tm' a' w' m hg => hN tm2 H2 a' w' K' β' κ' ⟨m.sr, m.ext, m.knew, m.keep, fun s => by rw [← hg]; exact m.slots s, m.size, m.defers⟩ hr)
    _ l _ K β κ _ tm a _ _ hlen hrem hmid hrun
end Go.Eng

namespace Go.Eng
open Go

variable {P : Program} {K : KMap} {β κ : Nat → Nat} {H : Heap} {w : World} {Fr : Nat → Prop}

/-- The first blocks. -/
theorem SR.take (s : SR Fr K β κ H w) (n : Nat) (hcel : (H.take n).all noCel = true) : SR Fr K β κ (H.take n) w := by
  have hg : ∀ {id : Nat} {x : ABlk}, (H.take n)[id]? = some x → H[id]? = some x := by
    intro id x h
    rw [List.getElem?_take] at h
    split at h
    · exact h
    · cases h
  refine ⟨s.wk, fun id x h => ?_, fun i j x y hi hj => s.inj i j x y (hg hi) (hg hj), fun id x h => s.nfr id x (hg h), s.frsz⟩
  have hb := s.blk id x (hg h)
  cases x with
  | cel cs =>
    have := List.all_eq_true.1 hcel _ (List.mem_of_getElem? h)
    simp [noCel] at this
  | _ => exact hb

mutual
theorem own1_sound {H2 : Heap} {K2 : KMap} {β2 κ2 : Nat → Nat} (hk : KLe K K2) : ∀ (x : AVal) {n : Nat} {y : AVal} {ids : List Nat} {v : Value}, own1 H n x = some (y, ids) → RA K β κ H x v →
    (∀ i id, ids[i]? = some id → ∃ b b', H[id]? = some b ∧ asArr b = some b' ∧ H2[n + i]? = some b' ∧ β2 (n + i) = β id) → RA K2 β2 κ2 H2 y v
  | .junk, _, _, _, _, h, _, _ => by simp [own1] at h
  | .ptr .., _, _, _, _, h, _, _ => by simp [own1] at h
  | .ep .., _, _, _, _, h, _, _ => by simp [own1] at h
  | .fn .., _, _, _, _, h, _, _ => by simp [own1] at h
  | .d x, n, y, ids, v, h, hx, _ => by
    simp only [own1, Option.some.injEq, Prod.mk.injEq] at h
    obtain ⟨rfl, rfl⟩ := h
    cases hx with | d hv => exact .d (hv.mono hk)
  | .vh id ver sz len, n, y, ids, v, h, hx, hb => by
    simp only [own1] at h
    split at h
    · rename_i sz' ver' rows hid
      cases e : Nat.beq ver ver' with
      | false => rw [e] at h; cases h
      | true =>
        rw [e] at h; simp only [cond_true, Option.some.injEq, Prod.mk.injEq] at h
        obtain ⟨rfl, rfl⟩ := h
        have e := Nat.eq_of_beq_eq_true e; subst e
        obtain ⟨b, b', h1, h2, h3, h4⟩ := hb 0 id rfl
        rw [hid] at h1; injection h1 with h1; subst h1
        simp only [asArr, Option.some.injEq] at h2; subst h2
        simp only [Nat.add_zero] at h3 h4
        cases hx with
        | vh hc hle hsl hf =>
          rw [curOf_eq, hid] at hc
          simp only [Option.bind_some, curB, Option.some.injEq, Prod.mk.injEq] at hc
          obtain ⟨rfl, rfl, rfl⟩ := hc
          obtain ⟨h5, h6⟩ := hf rfl
          obtain ⟨a, cap, rfl, hcap, ha⟩ := hsl
          refine .hs (bl := β2 n) (o := 0) (cv := 0) (n := rows.length) (by rw [curOf_eq, h3]; rfl) (Nat.le_refl _) ⟨a, cap, rfl, hcap, fun hz => ?_⟩ fun _ => ⟨by omega, fun _ => ⟨rfl, by simp⟩⟩
          rcases h6 with ⟨h6, _⟩ | ⟨h6, h7⟩
          · omega
          · injection h7 with h7 _ _; rw [h7, h4]
    · cases h
  | .hs id ver sz off len, n, y, ids, v, h, hx, hb => by
    simp only [own1] at h
    split at h
    · rename_i sz' rows hid
      cases e : Nat.beq ver 0 with
      | false => rw [e] at h; cases h
      | true =>
        rw [e] at h; simp only [cond_true, Option.some.injEq, Prod.mk.injEq] at h
        obtain ⟨rfl, rfl⟩ := h
        have e := Nat.eq_of_beq_eq_true e; subst e
        obtain ⟨b, b', h1, h2, h3, h4⟩ := hb 0 id rfl
        rw [hid] at h1; injection h1 with h1; subst h1
        simp only [asArr, Option.some.injEq] at h2; subst h2
        simp only [Nat.add_zero] at h3 h4
        cases hx with
        | hs hc hle hsl hf =>
          rw [curOf_eq, hid] at hc
          simp only [Option.bind_some, curB, Option.some.injEq, Prod.mk.injEq] at hc
          obtain ⟨rfl, rfl, rfl⟩ := hc
          obtain ⟨h5, h6⟩ := hf rfl
          exact .hs (cv := 0) (n := rows.length) (by rw [curOf_eq, h3]; rfl) (Nat.le_refl _) hsl fun _ => ⟨h5, fun hz => by rw [h4]; exact h6 hz⟩
    · cases h
  | .agg cs, n, y, ids, v, h, hx, hb => by
    simp only [own1] at h
    split at h
    · rename_i xs ids' hl
      simp only [Option.some.injEq, Prod.mk.injEq] at h
      obtain ⟨rfl, rfl⟩ := h
      cases hx with | agg hs => exact .agg (ownL_sound hk cs hl hs hb)
    · cases h
  | .tup cs, n, y, ids, v, h, hx, hb => by
    simp only [own1] at h
    split at h
    · rename_i xs ids' hl
      simp only [Option.some.injEq, Prod.mk.injEq] at h
      obtain ⟨rfl, rfl⟩ := h
      cases hx with | tup hs => exact .tup (ownL_sound hk cs hl hs hb)
    · cases h
theorem ownL_sound {H2 : Heap} {K2 : KMap} {β2 κ2 : Nat → Nat} (hk : KLe K K2) : ∀ (xs : List AVal) {n : Nat} {ys : List AVal} {ids : List Nat} {vs : List Value}, own1.ownL H n xs = some (ys, ids) → RAs K β κ H xs vs →
    (∀ i id, ids[i]? = some id → ∃ b b', H[id]? = some b ∧ asArr b = some b' ∧ H2[n + i]? = some b' ∧ β2 (n + i) = β id) → RAs K2 β2 κ2 H2 ys vs
  | [], n, ys, ids, vs, h, hx, _ => by
    simp only [own1.ownL, Option.some.injEq, Prod.mk.injEq] at h
    obtain ⟨rfl, rfl⟩ := h
    cases hx; exact .nil
  | x :: xs, n, ys, ids, vs, h, hx, hb => by
    simp only [own1.ownL] at h
    split at h
    · rename_i y ids1 h1
      split at h
      · rename_i ys' ids2 h2
        simp only [Option.some.injEq, Prod.mk.injEq] at h
        obtain ⟨rfl, rfl⟩ := h
        cases hx with
        | cons h3 h4 =>
          refine .cons (own1_sound hk x h1 h3 fun i id hi => hb i id ?_) (ownL_sound hk xs h2 h4 fun i id hi => ?_)
          · rw [List.getElem?_append_left (List.getElem?_eq_some_iff.1 hi).1]; exact hi
          · have := hb (ids1.length + i) id (by rw [List.getElem?_append_right (by omega)]; simpa using hi)
            simpa [Nat.add_assoc] using this
      · cases h
    · cases h
end

theorem distinct_spec : ∀ {l : List Nat}, distinct l = true → l.Nodup
  | [], _ => .nil
  | x :: xs, h => by
    simp only [distinct, Bool.and_eq_true, Bool.not_eq_true', List.contains_eq_mem, decide_eq_false_iff_not] at h
    exact List.nodup_cons.2 ⟨h.1, distinct_spec h.2⟩

theorem arrsAt_spec : ∀ {ids : List Nat} {bs : Heap}, arrsAt H ids = some bs → bs.length = ids.length ∧ ∀ (i : Nat) (b' : ABlk), bs[i]? = some b' → ∃ (id : Nat) (b : ABlk), ids[i]? = some id ∧ H[id]? = some b ∧ asArr b = some b'
  | [], bs, h => by simp only [arrsAt, Option.some.injEq] at h; subst h; simp
  | id :: ids, bs, h => by
    simp only [arrsAt] at h
    split at h
    · rename_i b bs' h1 h2
      injection h with h; subst h
      obtain ⟨h3, h4⟩ := arrsAt_spec h2
      refine ⟨by simp [h3], fun i b' hi => ?_⟩
      cases i with
      | zero =>
        simp at hi; subst hi
        obtain ⟨x, hx, hy⟩ := some_of_bind h1
        exact ⟨id, x, rfl, hx, hy⟩
      | succ i => simpa using h4 i b' (by simpa using hi)
    · cases h

theorem asArr_owns {b b' : ABlk} (h : asArr b = some b') : (owns b' → owns b) ∧ ∃ sz rows, b' = .arr sz rows := by
  cases b <;> simp [asArr] at h <;> (subst h; simp [owns])

/-- Blocks that are handed on, under new numbers. -/
theorem SR.arrs (s : SR Fr K β κ H w) {ids : List Nat} {bs : Heap} (hd : ids.Nodup) (h : arrsAt H ids = some bs) : SR Fr K (fun i => β (ids.getD i 0)) κ bs w := by
  obtain ⟨hl, hb⟩ := arrsAt_spec h
  have hget : ∀ {i id : Nat}, ids[i]? = some id → ids.getD i 0 = id := by
    intro i id hi; rw [List.getD_eq_getElem?_getD, hi]; rfl
  refine ⟨s.wk, fun i b' hi => ?_, fun i j x y hi hj hx hy e => ?_, fun i x hi hx => ?_, s.frsz⟩
  · obtain ⟨id, b, h1, h2, h3⟩ := hb i b' hi
    have hr := s.blk id b h2
    cases b with
    | arr sz rows =>
      simp only [asArr, Option.some.injEq] at h3; subst h3
      simp only [BRel, hget h1]; exact hr
    | vec sz ver rows =>
      simp only [asArr, Option.some.injEq] at h3; subst h3
      rcases hr with hr | ⟨vs, h4, h5, h6, _⟩
      · exact .inl hr
      · refine .inr ⟨vs, ?_, h5, ?_⟩ <;> simp only [hget h1] <;> assumption
    | _ => simp [asArr] at h3
  · obtain ⟨id, b, h1, h2, h3⟩ := hb i x hi
    obtain ⟨id', b', h4, h5, h6⟩ := hb j y hj
    rw [hget h1, hget h4] at e
    have := s.inj id id' b b' h2 h5 ((asArr_owns h3).1 hx) ((asArr_owns h6).1 hy) e
    subst this
    have hi' := List.getElem?_eq_some_iff.1 h1
    have hj' := List.getElem?_eq_some_iff.1 h4
    obtain ⟨hi1, hi2⟩ := hi'
    obtain ⟨hj1, hj2⟩ := hj'
    rcases Nat.lt_trichotomy i j with h | h | h
    · exact absurd (hi2.trans hj2.symm) (List.pairwise_iff_getElem.1 hd i j hi1 hj1 h)
    · exact h
    · exact absurd (hj2.trans hi2.symm) (List.pairwise_iff_getElem.1 hd j i hj1 hi1 h)
  · obtain ⟨id, b, h1, h2, h3⟩ := hb i x hi
    rw [hget h1]
    exact s.nfr id b h2 ((asArr_owns h3).1 hx)

/-- The end of the run. -/
theorem finK_sound {B : Base} {cf : Cf} {x : AVal} {u : Value} {r : Res} (h : finK cf x H = some r) (hn : B.n0 = 0 ∨ (cf.ret = 1 ∧ B.n0 ≤ cf.keep))
    (s : SR B.Fr K β κ H w) (he : ExtA B.n0 B.K0 B.β0 B.H0 K β H) (hk : KNew B.Fr B.K0 K) (hp : Keep B.Fr B.w0 w) (hx : RA K β κ H x u) : B.R r.1 r.2 (.returned u) w := by
  refine ⟨u, rfl, ?_⟩
  unfold finK at h
  split at h
  · rename_i hret
    split at h
    · rename_i y hy
      injection h with h; subst h
      obtain ⟨K', s1, e1, n1, hv⟩ := data_of s hx hy
      have h0 : B.n0 = 0 := hn.resolve_right (by rw [hret]; simp)
      refine ⟨K', β, κ, ⟨s1.wk, fun _ _ h => by simp at h, fun _ _ _ _ h => by simp at h, fun _ _ h => by simp at h, s1.frsz⟩, ⟨he.kle.trans e1.kle, fun id _ h => by omega⟩, hk.trans he.kle n1, hp, .d hv⟩
    · cases h
  · rename_i hret
    split at h
    · rename_i y hy
      cases hall : ((Eng.freezeAll H (handles x)).take cf.keep).all noCel with
      | false => rw [hall] at h; cases h
      | true =>
        rw [hall] at h
        injection h with h; subst h
        obtain ⟨K', s1, e1, n1, hv⟩ := data_of s hx hy
        have h0 : B.n0 ≤ cf.keep := by rcases hn with h | h <;> omega
        have hA := he.trans (e1.toA _)
        refine ⟨K', β, κ, s1.take _ hall, ⟨hA.kle, fun id y hid hy hg => ?_⟩, hk.trans he.kle n1, hp, .d hv⟩
        obtain ⟨z, hz, h2⟩ := hA.blk id y hid hy hg
        exact ⟨z, by rw [List.getElem?_take, if_pos (by omega)]; exact hz, h2⟩
    · cases h
  · rename_i h0 h1
    split at h
    · rename_i y ids hown
      split at h
      · rename_i hdist
        split at h
        · rename_i bs hbs
          injection h with h; subst h
          have hz : B.n0 = 0 := hn.resolve_right (by rintro ⟨h, _⟩; exact h1 h)
          obtain ⟨hl, hb⟩ := arrsAt_spec hbs
          refine ⟨K, fun i => β (ids.getD i 0), κ, s.arrs (distinct_spec hdist) hbs, ⟨he.kle, fun id _ h => by omega⟩, hk, hp, own1_sound (.refl _) x hown hx fun i id hi => ?_⟩
          have hlt : i < bs.length := by rw [hl]; exact (List.getElem?_eq_some_iff.1 hi).1
          obtain ⟨id', b, h2, h3, h4⟩ := hb i bs[i] (List.getElem?_eq_getElem hlt)
          rw [hi] at h2; injection h2 with h2; subst h2
          refine ⟨b, bs[i], h3, h4, by rw [Nat.zero_add]; exact List.getElem?_eq_getElem hlt, ?_⟩
          simp only [Nat.zero_add, List.getD_eq_getElem?_getD, hi, Option.getD_some]
        · cases h
      · cases h
    · cases h
end Go.Eng

namespace Go.Eng
open Go

variable {P : Program} {K : KMap} {β κ : Nat → Nat} {H : Heap} {w : World} {Fr : Nat → Prop}

theorem asAddr_run {id off : Nat} {v : Value} (h : RA K β κ H (.ptr id off) v) : (asAddr v).run P w = .ok ⟨β id, off, none⟩ w := by
  cases h with | ptr _ => rfl

theorem resultA_sound {tm : Tm} {tmps : Array Value} {x : AVal} {rv : ResultVar} (s : SR Fr K β κ H w) (hf : FR K β κ H tm tmps) (h : resultA P H tm rv = some x) :
    ∃ u, ((match rv with
      | .tmp t => pure (tmps.getD t undef)
      | .cell a t => do loadVar t (← asAddr (tmps.getD a undef))) : Sem Value).run P w = .ok u w ∧ RA K β κ H x u := by
  cases rv with
  | tmp t =>
    simp only [resultA, Option.some.injEq] at h; subst h
    exact ⟨_, rfl, hf t⟩
  | cell a t =>
    simp only [resultA] at h
    have ha := hf a
    split at h
    · rename_i id off hg
      rw [hg] at ha
      split at h
      · rename_i cs hid
        obtain ⟨vs, h1, h2, _⟩ := s.blk id _ hid
        obtain ⟨r, h3, h4⟩ := partK_load (P := P) h1 h2 h
        refine ⟨r, ?_, h4⟩
        simp only [Sem.run_bind, asAddr_run ha, Result.andThen_ok]
        exact h3
      · cases h
    · cases h

theorem resultsA_sound {tm : Tm} {tmps : Array Value} {fn : Func} {xs : List AVal} (s : SR Fr K β κ H w) (hf : FR K β κ H tm tmps) (h : resultsA P H tm fn.results.toList = some xs) :
    ∃ u, (results fn tmps).run P w = .ok u w ∧ RA K β κ H (oneOf xs) u := by
  have main : ∀ (l : List ResultVar) (xs : List AVal), resultsA P H tm l = some xs → ∃ us, (l.mapM fun (rv : ResultVar) => (match rv with
      | .tmp t => pure (tmps.getD t undef)
      | .cell a t => do loadVar t (← asAddr (tmps.getD a undef)) : Sem Value)).run P w = .ok us w ∧ RAs K β κ H xs us := by
    intro l
    induction l with
    | nil => intro xs h; simp only [resultsA, Option.some.injEq] at h; subst h; exact ⟨[], rfl, .nil⟩
    | cons r l ih =>
      intro xs h
      simp only [resultsA] at h
      split at h
      · rename_i x ys h1 h2
        injection h with h; subst h
        obtain ⟨u, h3, h4⟩ := resultA_sound s hf h1
        obtain ⟨us, h5, h6⟩ := ih ys h2
        exact ⟨u :: us, by simp only [List.mapM_cons, Sem.run_bind, h3, h5, Result.andThen_ok, Sem.run_pure], .cons h4 h6⟩
      · cases h
  obtain ⟨us, h1, h2⟩ := main _ xs h
  refine ⟨if h : us.length = 1 then us[0] else .tuple ⟨us⟩, ?_, ?_⟩
  · unfold results
    rw [Array.mapM_eq_mapM_toList]
    simp only [Sem.run_bind, Sem.run_map, Sem.run_pure]
    exact (congrArg (fun z : Result (List Value) => (z.andThen fun a w' => Result.ok a.toArray w').andThen fun a w' => Result.ok (if h : a.size = 1 then a[0] else Value.tuple a) w') h1).trans rfl
  · have hl := h2.length
    unfold oneOf
    split
    · rename_i x
      cases h2 with
      | cons h3 h4 => cases h4; exact h3
    · rename_i hne
      rw [dif_neg]
      · exact .tup h2
      · intro h1
        rw [hl] at h1
        match xs, h1 with
        | [x], _ => exact hne x rfl

/- The caller's own slices. -/
theorem onHs_some {A : Type} {j sz : Nat} {x : AVal} {f : Nat → Option A} {r : A} (h : onHs j sz x f = some r) : ∃ ver len, x = .hs j ver sz 0 len ∧ f len = some r := by
  unfold onHs at h
  split at h
  · split at h
    · rename_i he; obtain ⟨rfl, rfl⟩ := he; exact ⟨_, _, rfl, h⟩
    · cases h
  · cases h

theorem onArr_some {A : Type} {j sz : Nat} {f : Rows → Option A} {r : A} (h : onArr H j sz f = some r) : ∃ rows, H[j]? = some (.arr sz rows) ∧ f rows = some r := by
  unfold onArr at h
  split at h
  · split at h
    · rename_i he; subst he; exact ⟨_, by assumption, h⟩
    · cases h
  · cases h

/-- Where the blocks of an answer stand in the caller's heap. -/
def Moved (H' HT : Heap) (β2 β' : Nat → Nat) (n j : Nat) (bs : List ABlk) : Prop :=
  ∀ (i : Nat) (b : ABlk), bs[i]? = some b → HT[n + (j + i)]? = some b ∧ β' (n + (j + i)) = β2 (j + i)

def Same (H' : Heap) (j : Nat) (bs : List ABlk) : Prop := ∀ (i : Nat) (b : ABlk), bs[i]? = some b → H'[j + i]? = some b ∧ ∃ sz rows, b = .arr sz rows

theorem castOwn1_sound {A : Type} {K2 : KMap} {β2 κ2 : Nat → Nat} {H' : Heap} {n j : Nat} {t : TypeId} {x : AVal} {u : Value} {f : AVal → List ABlk → Option A} {r : A}
    (h : castOwn1 P H' n j t x f = some r) (hx : RA K2 β2 κ2 H' x u) : ∃ y bs, f y bs = some r ∧ Same H' j bs ∧ (∀ {HT : Heap} {β' κ' : Nat → Nat}, Moved H' HT β2 β' n j bs → RA K2 β' κ' HT y u) := by
  unfold castOwn1 at h
  split at h
  · rename_i e hu
    obtain ⟨ver, len, rfl, h'⟩ := onHs_some h
    obtain ⟨rows, hj, h2⟩ := onArr_some h'
    refine ⟨_, _, h2, fun i b hi => ?_, fun hm => ?_⟩
    · cases i with
      | zero => simp at hi; subst hi; exact ⟨by simpa using hj, _, _, rfl⟩
      | succ i => simp at hi
    · obtain ⟨h1, h2⟩ := hm 0 _ rfl
      simp only [Nat.add_zero] at h1 h2
      cases hx with
      | hs hc hle hsl hf =>
        rw [curOf_eq, hj] at hc
        simp only [Option.bind_some, curB, Option.some.injEq, Prod.mk.injEq] at hc
        obtain ⟨_, rfl, rfl⟩ := hc
        obtain ⟨h3, h4⟩ := hf (by omega)
        exact .hs (cv := 0) (n := rows.length) (by rw [curOf_eq, h1]; rfl) (Nat.le_refl _) hsl fun _ => ⟨h3, fun hz => by rw [h2]; exact h4 hz⟩
  · unfold onD at h
    split at h
    · rename_i x'
      obtain ⟨y, h1, h2⟩ := par1 (castLeaf_bind P t x') h
      refine ⟨_, _, h2, fun i b hi => by simp at hi, fun _ => ?_⟩
      cases hx with | d hv => exact .d (castLeaf_sound h1 hv)
    · cases h

theorem castOwnL_sound {A : Type} {K2 : KMap} {β2 κ2 : Nat → Nat} {H' : Heap} {n : Nat} {xs : List AVal} : ∀ {ts : List TypeId} {j i : Nat} {us : List Value} {f : List AVal → List ABlk → Option A} {r : A},
    castOwnL P H' n j ts xs i f = some r → RAs K2 β2 κ2 H' (xs.drop i) us → xs.length = i + ts.length → ∃ ys bs, f ys bs = some r ∧ Same H' j bs ∧ (∀ {HT : Heap} {β' κ' : Nat → Nat}, Moved H' HT β2 β' n j bs → RAs K2 β' κ' HT ys us)
  | [], j, i, us, f, r, h, hx, hl => by
    simp only [castOwnL] at h
    refine ⟨_, _, h, fun i b hi => by simp at hi, fun _ => ?_⟩
    have := hx.length
    simp at this hl
    have : us = [] := List.length_eq_zero_iff.1 (by omega)
    subst this; exact .nil
  | t :: ts, j, i, us, f, r, h, hx, hl => by
    simp only [castOwnL] at h
    unfold onCellA at h
    split at h
    · rename_i x hxi
      have hd : xs.drop i = x :: xs.drop (i + 1) := by
        have hlt := (List.getElem?_eq_some_iff.1 hxi)
        rw [List.drop_eq_getElem_cons hlt.1, hlt.2]
      rw [hd] at hx
      cases hx with
      | cons h1 h2 =>
        obtain ⟨y, bs, h3, s1, m1⟩ := castOwn1_sound h h1
        obtain ⟨ys, bs', h4, s2, m2⟩ := castOwnL_sound h3 h2 (by simp at hl; omega)
        refine ⟨_, _, h4, fun k b hk => ?_, fun hm => .cons (m1 fun k b hk => ?_) (m2 fun k b hk => ?_)⟩
        · rw [List.getElem?_append] at hk
          split at hk
          · exact s1 k b hk
          · have := s2 _ b hk
            rw [show j + bs.length + (k - bs.length) = j + k by omega] at this
            exact this
        · exact hm k b (by rw [List.getElem?_append_left (List.getElem?_eq_some_iff.1 hk).1]; exact hk)
        · have := hm (bs.length + k) b (by rw [List.getElem?_append_right (by omega)]; simpa using hk)
          rw [show j + (bs.length + k) = j + bs.length + k by omega] at this
          exact this
    · cases h

theorem castOwn_sound {A : Type} {K2 : KMap} {β2 κ2 : Nat → Nat} {H' : Heap} {n : Nat} {t : TypeId} {x : AVal} {u : Value} {f : AVal → List ABlk → Option A} {r : A}
    (h : castOwn P t x H' n f = some r) (hx : RA K2 β2 κ2 H' x u) : ∃ y bs, f y bs = some r ∧ Same H' 0 bs ∧ (∀ {HT : Heap} {β' κ' : Nat → Nat}, Moved H' HT β2 β' n 0 bs → RA K2 β' κ' HT y u) := by
  unfold castOwn at h
  split at h
  · unfold onAggA at h
    split at h
    · rename_i cs
      split at h
      · rename_i hl
        cases hx with
        | agg hs =>
          obtain ⟨ys, bs, h1, h2, h3⟩ := castOwnL_sound (j := 0) (i := 0) h (by simpa using hs) (by omega)
          exact ⟨_, _, h1, h2, fun hm => .agg (h3 hm)⟩
      · cases h
    · cases h
  · exact castOwn1_sound h hx
  · cases h

/-- Arrays that come to the heap. -/
theorem SR.join {K2 : KMap} {β2 κ2 : Nat → Nat} {H' bs : Heap} {Fr2 : Nat → Prop} (s : SR Fr K2 β κ H w) (s2 : SR Fr2 K2 β2 κ2 H' w) (hfr : ∀ b, Fr b → Fr2 b)
    (hold : ∀ (id : Nat) (x : ABlk), H[id]? = some x → owns x → Fr2 (β id)) (hb : Same H' 0 bs) :
    ∃ β' κ', SR Fr K2 β' κ' (H ++ bs) w ∧ Ext K2 β κ H K2 β' κ' (H ++ bs) ∧ Moved H' (H ++ bs) β2 β' H.length 0 bs := by
  have hnew : ∀ {id : Nat} {x : ABlk}, ¬ id < H.length → (H ++ bs)[id]? = some x → bs[id - H.length]? = some x := by
    intro id x hlt h
    rwa [List.getElem?_append_right (by omega)] at h
  have hget : ∀ {id : Nat} {x : ABlk}, H[id]? = some x → (H ++ bs)[id]? = some x := by
    intro id x h
    rw [List.getElem?_append_left (List.getElem?_eq_some_iff.1 h).1]; exact h
  have hin : ∀ {id : Nat} {x : ABlk}, H[id]? = some x → id < H.length := fun h => (List.getElem?_eq_some_iff.1 h).1
  have hE : Ext K2 β κ H K2 (fun i => if i < H.length then β i else β2 (i - H.length)) (fun i => if i < H.length then κ i else κ2 (i - H.length)) (H ++ bs) := by
    refine ⟨.refl _, fun id ⟨cs, h⟩ => ⟨⟨cs, hget h⟩, by simp [hin h]⟩, fun id sz cv n h => ?_, fun id x sz rows' h1 h2 => ?_⟩
    · rw [curOf_eq] at h
      cases e : H[id]? with
      | none => rw [e] at h; cases h
      | some x => rw [e] at h; exact ⟨cv, n, by rw [curOf_eq, hget e]; exact h, .inl ⟨rfl, rfl, by simp [hin e], by simp [hin e]⟩⟩
    · rw [hget h1] at h2; injection h2 with h2; exact .inr ⟨_, h2⟩
  refine ⟨_, _, ⟨s.wk, fun id x h => ?_, fun i j x y hi hj hx hy e => ?_, fun id x h ho => ?_, s.frsz⟩, hE, fun i b hi => ⟨?_, by simp only [Nat.zero_add]; rw [if_neg (by omega), Nat.add_sub_cancel_left]⟩⟩
  · by_cases hlt : id < H.length
    · have h' : H[id]? = some x := by rwa [List.getElem?_append_left hlt] at h
      exact BRel.mono hE (by simp [hlt]) (by simp [hlt]) (fun _ _ h => h) (fun _ _ h => h) (s.blk id x h')
    · obtain ⟨h1, sz, rows, rfl⟩ := hb _ x (hnew hlt h)
      rw [Nat.zero_add] at h1
      have := s2.blk _ _ h1
      simp only [BRel, if_neg hlt] at this ⊢
      exact this
  · by_cases h1 : i < H.length
    · have hi' : H[i]? = some x := by rwa [List.getElem?_append_left h1] at hi
      by_cases h2 : j < H.length
      · have hj' : H[j]? = some y := by rwa [List.getElem?_append_left h2] at hj
        simp only [if_pos h1, if_pos h2] at e
        exact s.inj i j x y hi' hj' hx hy e
      · exfalso
        simp only [if_pos h1, if_neg h2] at e
        obtain ⟨h3, _⟩ := hb _ y (hnew h2 hj)
        rw [Nat.zero_add] at h3
        exact s2.nfr _ y h3 hy (e ▸ hold i x hi' hx)
    · obtain ⟨h3, _⟩ := hb _ x (hnew h1 hi)
      rw [Nat.zero_add] at h3
      by_cases h2 : j < H.length
      · exfalso
        have hj' : H[j]? = some y := by rwa [List.getElem?_append_left h2] at hj
        simp only [if_neg h1, if_pos h2] at e
        exact s2.nfr _ x h3 hx (e ▸ hold j y hj' hy)
      · obtain ⟨h4, _⟩ := hb _ y (hnew h2 hj)
        rw [Nat.zero_add] at h4
        simp only [if_neg h1, if_neg h2] at e
        have := s2.inj _ _ x y h3 h4 hx hy e
        omega
  · by_cases hlt : id < H.length
    · have h' : H[id]? = some x := by rwa [List.getElem?_append_left hlt] at h
      simp only [if_pos hlt]; exact s.nfr id x h' ho
    · obtain ⟨h1, _⟩ := hb _ x (hnew hlt h)
      rw [Nat.zero_add] at h1
      simp only [if_neg hlt]
      exact fun hf => s2.nfr _ x h1 ho (hfr _ hf)
  · rw [List.getElem?_append_right (by omega)]; simpa using hi

section bind
variable {A B : Type}
theorem onCellA_bind (row : List AVal) (i : Nat) (f : AVal → Option A) (h : A → Option B) : (onCellA row i f).bind h = onCellA row i fun n => (f n).bind h := by
  unfold onCellA; split <;> rfl
theorem castOwnL_bind (H' : Heap) (n : Nat) : ∀ (ts : List TypeId) (j : Nat) (xs : List AVal) (i : Nat) (f : List AVal → List ABlk → Option A) (h : A → Option B), (castOwnL P H' n j ts xs i f).bind h = castOwnL P H' n j ts xs i fun y bs => (f y bs).bind h
  | [], _, _, _, _, _ => rfl
  | t :: ts, j, xs, i, f, h => by
    simp only [castOwnL, onCellA_bind, castOwn1_bind]
    congr; funext x; congr; funext y bs
    exact castOwnL_bind H' n ts _ _ _ _ _
theorem castOwn_bind (t : TypeId) (x : AVal) (H' : Heap) (n : Nat) (f : AVal → List ABlk → Option A) (h : A → Option B) : (castOwn P t x H' n f).bind h = castOwn P t x H' n fun y bs => (f y bs).bind h := by
  unfold castOwn; split
  · unfold onAggA; split
    · simp only [ite_bind, castOwnL_bind, Option.bind_none]
    · rfl
  · exact castOwn1_bind ..
  · rfl
end bind

/-- Such a call. -/
theorem own_sound {X : Orc} (hX : OrcOk P X) {g : FuncId} {fn : Func} {body : Code} (hf : P.funcs[g]? = some fn) (hb : fn.body = some body) (hn : fn.name ≠ "runtime.NumGoroutine") {args : List AVal} {vs : List Value}
    (s : SR Fr K β κ H w) (ha : RAs K β κ H args vs) {ds : List DVal} (hd : toDL (viewAt H) args = some ds) (hno : args.all (fun a => (handles a).isEmpty) = true) {as : List AVal} (has : castArgs P fn ds some = some as) {x : AVal} {H' : Heap} (hx : X g as [] = some (x, H'))
    {A : Type} {rt : TypeId} {f : AVal → List ABlk → Option A} {r : A} (hc : castOwn P rt x H' H.length f = some r) {o : Oper} {a : Act} (ho : (execOp a.eval o).run P w = (callFunc g ⟨vs⟩).run P w) :
    ∃ y bs, f y bs = some r ∧ Does P o a w (Post Fr K β κ H w y (H ++ bs)) := by
  have hvs : Vs K ds vs := by
    refine toDs_sound LkOk.none _ ha ?_
    rw [← hd]
    refine toDs_congr _ fun id hid => ?_
    exfalso
    have : ∀ (l : List AVal), l.all (fun a => (handles a).isEmpty) = true → handles.handlesL l = [] := by
      intro l
      induction l with
      | nil => intro _; rfl
      | cons y l ih =>
        intro h
        simp only [List.all_cons, Bool.and_eq_true, List.isEmpty_iff] at h
        simp only [handles.handlesL, h.1, ih h.2, List.append_nil]
    rw [this _ hno] at hid; cases hid
  have hS := (hX g _ _ _ _ hx fn hf).1 (by rw [hb]; simp) (· < w.heap.size) K β κ w vs s.empty (castArgs_sound hvs has)
  have e : castOwn P rt x H' H.length f = (castOwn P rt x H' H.length fun y bs => some (y, bs)).bind fun p => f p.1 p.2 := by rw [castOwn_bind]; rfl
  rw [e] at hc
  obtain ⟨⟨y, bs⟩, hc1, hc2⟩ := some_of_bind hc
  refine ⟨y, bs, hc2, .inr (.inr ⟨g, ⟨vs⟩, w, by rw [ho, run_callFunc hf hb hn], ?_⟩)⟩
  refine hS.mono fun e w2 ⟨u, he, K2, β2, κ2, s2, e2, n2, k2, r2⟩ => ⟨u, he, ?_⟩
  obtain ⟨y', bs', h1, h2, h3⟩ := castOwn_sound hc1 r2
  simp only [Option.some.injEq, Prod.mk.injEq] at h1
  obtain ⟨rfl, rfl⟩ := h1
  obtain ⟨s3, e3, n3, k3⟩ := s.after e2.kle s2.wk n2 k2
  obtain ⟨β', κ', s4, e4, m4⟩ := s3.join s2 s.frsz (fun id x hid ho => owns_lt s hid ho) h2
  exact ⟨K2, β', κ', s4, e3.trans e4, n3, k3, h3 m4⟩
end Go.Eng

namespace Go.Eng
open Go

variable {P : Program} {K : KMap} {β κ : Nat → Nat} {H : Heap} {w : World} {Fr : Nat → Prop}

theorem low_same {F F' : RF} {rs : List RF} {f0 : FuncId} (h : ((F :: rs).getLast (by simp)).fn = f0) (hf : F'.fn = F.fn) : ((F' :: rs).getLast (by simp)).fn = f0 := by
  cases rs with
  | nil => simpa [hf] using h
  | cons r rs => simpa using h

/-- The next state, where only the top frame has gone on. -/
theorem CR.go {B : Base} {c : Cfg} {F : RF} {rs : List RF} (hc : CR P B K β κ c F rs w) {K' : KMap} {β' κ' : Nat → Nat} {H' : Heap} {w' : World} {tm' : Tm} {a' : Act} {todo' : List Item}
    (s : SR B.Fr K' β' κ' H' w') (e : Ext K β κ c.H K' β' κ' H') (n : KNew B.Fr K K') (k : Keep B.Fr w w') (hf : FR K' β' κ' H' tm' a'.tmps) (hs : c.fr.f.ntmps ≤ a'.tmps.size) (hd : a'.defers = []) :
    CR P B K' β' κ' ⟨⟨c.fr.fid, c.fr.f, tm', todo'⟩, c.cs, H'⟩ ⟨F.fn, a', todo'⟩ rs w' :=
  ⟨s, hc.ext.trans (e.toA _), hc.knew.trans hc.ext.kle n, hc.keep.trans k, ⟨hc.top.fn, rfl, hd, hf, hc.top.func, hs⟩, hc.rest.mono e, low_same hc.low rfl⟩

/-- Only what is to be done. -/
theorem CR.todo {B : Base} {c : Cfg} {F : RF} {rs : List RF} (hc : CR P B K β κ c F rs w) (todo' : List Item) :
    CR P B K β κ { c with fr := { c.fr with todo := todo' } } ⟨F.fn, F.a, todo'⟩ rs w :=
  hc.go hc.sr (.refl _ _ _ _) (.refl _ _) (.refl _ _) hc.top.slots hc.top.size hc.top.defers

theorem CR.slots {B : Base} {c : Cfg} {F : RF} {rs : List RF} (hc : CR P B K β κ c F rs w) {tm' : Tm} (hf : FR K β κ c.H tm' F.a.tmps) (todo' : List Item) :
    CR P B K β κ { c with fr := { c.fr with tm := tm', todo := todo' } } ⟨F.fn, F.a, todo'⟩ rs w :=
  hc.go hc.sr (.refl _ _ _ _) (.refl _ _) (.refl _ _) hf hc.top.size hc.top.defers

theorem Post.cr {B : Base} {c : Cfg} {F : RF} {rs : List RF} (hc : CR P B K β κ c F rs w) {v : AVal} {H' : Heap} {u : Value} {w' : World} (hp : Post B.Fr K β κ c.H w v H' u w') {tm tm2 : Tm} (hf : FR K β κ c.H tm F.a.tmps)
    {o : Oper} (ho : putDst o c.fr.f.ntmps v tm = some tm2) (todo' : List Item) :
    ∃ K' β' κ', CR P B K' β' κ' { c with fr := { c.fr with tm := tm2, todo := todo' }, H := H' } ⟨F.fn, F.a.put o.dst u, todo'⟩ rs w' := by
  obtain ⟨K', β', κ', s1, e1, n1, k1, r1⟩ := hp
  obtain ⟨h1, h2, h3⟩ := putDst_sound ho (hf.mono e1) r1 hc.top.size
  exact ⟨K', β', κ', hc.go s1 e1 n1 k1 h1 (by rw [h2]; exact hc.top.size) (by rw [h3]; exact hc.top.defers)⟩

theorem findLA_mem : ∀ {l : List LA} {fid key : Nat} {la : LA}, findLA l fid key = some la → la ∈ l
  | x :: l, fid, key, la, h => by
    simp only [findLA] at h
    cases e : (Nat.beq x.fid fid && Nat.beq x.key key) with
    | true => rw [e] at h; simp only [cond_true, Option.some.injEq] at h; subst h; simp
    | false => rw [e] at h; exact List.mem_cons_of_mem _ (findLA_mem h)

theorem enter_get : ∀ {xs : List AVal} {i s : Nat}, get (enterTm xs i) s = if i ≤ s then (xs[s - i]?).getD .junk else .junk
  | [], i, s => by simp [enterTm, get]
  | x :: xs, i, s => by
    simp only [enterTm, get]
    cases e : Nat.beq i s with
    | true => have := Nat.eq_of_beq_eq_true e; subst this; simp
    | false =>
      have hne : i ≠ s := by rintro rfl; simp at e
      simp only [cond_false]
      rw [enter_get]
      by_cases h : i ≤ s
      · have h1 : i + 1 ≤ s := by omega
        rw [if_pos h1, if_pos h, show s - i = (s - (i + 1)) + 1 by omega, List.getElem?_cons_succ]
      · rw [if_neg (by omega), if_neg h]

theorem enter_fr {xs : List AVal} {vs : List Value} (h : RAs K β κ H xs vs) (n : Nat) : FR K β κ H (enterTm xs 0) (⟨vs⟩ ++ Array.replicate n undef : Array Value) := by
  intro s
  rw [enter_get]
  simp only [Nat.zero_le, if_true, Nat.sub_zero]
  cases e : xs[s]? with
  | none => exact .junk _
  | some x =>
    obtain ⟨v, h1, h2⟩ := h.get e
    have : ((⟨vs⟩ : Array Value) ++ Array.replicate n undef).getD s undef = v := by
      rw [Array.getD_eq_getD_getElem?, Array.getElem?_append_left (by have := (List.getElem?_eq_some_iff.1 h1).1; simpa using this)]
      simp [h1]
    rw [this]; exact h2

theorem enter_eq {f : FuncId} {fn : Func} {body : Code} {args : Array Value} (hf : P.funcs[f]? = some fn) (hb : fn.body = some body) :
    Frame.enter P f args .normal = (base f).at { tmps := args ++ Array.replicate (fn.ntmps - args.size) undef, defers := [] } [.code body] := by
  simp [Frame.enter, Frame.at, hf, hb, base]

structure CfOk (cf : Cf) (B : Base) : Prop where
  loops : ∀ la ∈ cf.loops, B.n0 ≤ la.nb
  joins : ∀ la ∈ cf.joins, B.n0 ≤ la.nb
  ret : B.n0 = 0 ∨ (cf.ret = 1 ∧ B.n0 ≤ cf.keep)

section step
variable {X : Orc} {cf : Cf} {B : Base}

theorem endK_sound (hcf : CfOk cf B) {c : Cfg} {k : Cfg → Option Res} {r : Res} (h : endK P cf c k = some r) (hk : ∀ c', k c' = some r → Sound P B c' r)
    (ht : c.fr.todo = [] ∨ ∃ t, c.fr.todo = .code .ret :: t) : Sound P B c r := by
  intro K β κ F rs w hc
  obtain ⟨⟨fid, f, tm, todo⟩, cs, H⟩ := c
  obtain ⟨fn, a, todo'⟩ := F
  obtain ⟨t1, t2, t3, t4, t5, t6⟩ := hc.top
  dsimp only at t1 t2 t3 t4 t5 t6 ht
  subst t2 t1
  unfold endK at h
  split at h
  · rename_i vs hvs
    obtain ⟨u, h1, h2⟩ := resultsA_sound hc.sr t4 hvs
    split at h
    · -- the lowest frame
      rename_i hcs
      dsimp only at hcs
      subst hcs
      have hlow := hc.low
      have hrest := hc.rest
      dsimp only at hrest
      cases hrest
      dsimp only [List.getLast] at hlow
      have hR := finK_sound h hcf.ret hc.sr hc.ext hc.knew hc.keep h2
      subst hlow
      exact .ret ht t5 t3 h1 hR
    · rename_i rf cs' hcs
      dsimp only at hcs
      subst hcs
      split at h
      · rename_i ops i rest t hrt
        split at h
        · rename_i o ho
          split at h
          · rename_i tm2 hput
            have hrest := hc.rest
            dsimp only at hrest
            cases hrest with
            | cons h3 h4 =>
              rename_i r' rs'
              obtain ⟨p1, p2, p3⟩ := putDst_sound hput h3.slots h2 h3.size
              refine .pop ht t5 t3 h1 (h3.todo.trans hrt) ho ?_
              refine hk _ h K β κ ⟨r'.fn, r'.a.put o.dst u, .inRegion ops rest :: t⟩ rs' w ⟨hc.sr, hc.ext, hc.knew, hc.keep, ⟨h3.fn, rfl, by rw [p3]; exact h3.defers, p1, h3.func, by rw [p2]; exact h3.size⟩, h4, ?_⟩
              have := hc.low
              rw [List.getLast_cons (by simp)] at this
              exact low_same this rfl
          · cases h
        · cases h
      · cases h
  · cases h

/-- An operation, as it stands. -/
theorem plain_sound (hX : OrcOk P X) {c : Cfg} {k : Cfg → Option Res} {r : Res} (hk : ∀ c', k c' = some r → Sound P B c' r) {ops : Array Oper} {i : Nat} {rest : List Nat} {t : List Item} {o : Oper} {tm : Tm}
    (h : ((planOf P X cf ops o (ev tm) c.H.length).run c.H fun v H' => match putDst o c.fr.f.ntmps v tm with
          | some tm2 => k { c with fr := { c.fr with tm := tm2, todo := .inRegion ops rest :: t }, H := H' }
          | none => none) = some r)
    {F : RF} {rs : List RF} (hc : CR P B K β κ c F rs w) (hf : FR K β κ c.H tm F.a.tmps) (ho : ops[i]? = some o) (hw : Region.wanted o (yielded ops F.a.tmps) = true) :
    Fin P B.f0 (B.R r.1 r.2) ((base F.fn).at F.a (.inRegion ops (i :: rest) :: t)) rs w := by
  have e := Plan.run_bind (planOf_par P X cf ops o (ev tm) c.H.length) c.H (fun v H' => some (v, H')) (fun p => match putDst o c.fr.f.ntmps p.1 tm with
    | some tm2 => k { c with fr := { c.fr with tm := tm2, todo := .inRegion ops rest :: t }, H := p.2 }
    | none => none)
  simp only [Option.bind_some] at e
  obtain ⟨⟨v, H'⟩, h1, h2⟩ := some_of_bind (e.trans h)
  dsimp only at h2
  split at h2
  · rename_i tm2 hput
    refine .does ho hw (planOf_sound hX hc.sr hf h1) fun u w' hp => ?_
    obtain ⟨K', β', κ', hc'⟩ := Post.cr hc hp hf hput (.inRegion ops rest :: t)
    exact hk _ h2 _ _ _ _ _ _ hc'
  · cases h2

theorem step_sound (hmix : P.follows .mixedOrders = true) (hX : OrcOk P X) (hcf : CfOk cf B) {c : Cfg} {k kl : Cfg → Option Res} {r : Res} (h : stepK P X cf c k kl = some r)
    (hk : ∀ c', k c' = some r → Sound P B c' r) (hkl : ∀ c', kl c' = some r → Sound P B c' r) : Sound P B c r := by
  intro K β κ F rs w hc
  have htodo : F.todo = c.fr.todo := hc.top.todo
  rw [htodo]
  unfold stepK at h
  dsimp only at h
  have hgo : ∀ (t : List Item), k { c with fr := { c.fr with todo := t } } = some r → Fin P B.f0 (B.R r.1 r.2) ((base F.fn).at F.a t) rs w := fun t ht =>
    hk _ ht K β κ ⟨F.fn, F.a, t⟩ rs w (hc.todo t)
  split at h
  · rename_i ht
    have := endK_sound hcf h hk (.inl ht) K β κ F rs w hc
    rwa [htodo] at this
  · rename_i t ht
    have := endK_sound hcf h hk (.inr ⟨t, ht⟩) K β κ F rs w hc
    rwa [htodo] at this
  · rename_i t ht; rw [ht]; exact .skip (hgo t h)
  · rename_i l t ht; rw [ht]; exact .label (hgo t h)
  · rename_i id t ht; rw [ht]; exact .inBlock (hgo t h)
  · rename_i id t ht; rw [ht]; exact .inScope (hgo t h)
  · rename_i x y t ht; rw [ht]; exact .seq (hgo _ h)
  · -- cond
    rename_i o x y t ht
    rw [ht]
    have hev := ev_sound hc.top.slots o
    have hslot : ∀ (s : Nat) (v : Bool) (todo' : List Item), get c.fr.tm s = .d (.v (.bool v)) → k { c with fr := { c.fr with tm := (s, b v) :: c.fr.tm, todo := todo' } } = some r → Fin P B.f0 (B.R r.1 r.2) ((base F.fn).at F.a todo') rs w := by
      intro s v todo' hs hr
      refine hk _ hr K β κ ⟨F.fn, F.a, todo'⟩ rs w (hc.slots (fr_cons hc.top.slots ?_) todo')
      have := hc.top.slots s
      rw [hs] at this
      rw [this.dv]; exact .b _
    split at h
    · rename_i s v hv
      rw [hv] at hev
      split at h
      · rename_i hvt
        subst hvt
        exact .cond hev.dv (by rw [if_pos rfl]; exact hslot s true _ hv h)
      · rename_i hvf
        have hvf : v = false := by simpa using hvf
        subst hvf
        exact .cond hev.dv (by rw [if_neg (by simp)]; exact hslot s false _ hv h)
    · rename_i v _ hv
      rw [hv] at hev
      split at h
      · rename_i hvt
        subst hvt
        exact .cond hev.dv (by rw [if_pos rfl]; exact hgo _ h)
      · rename_i hvf
        have hvf : v = false := by simpa using hvf
        subst hvf
        exact .cond hev.dv (by rw [if_neg (by simp)]; exact hgo _ h)
    · cases h
  · rename_i id x t ht; rw [ht]; exact .block (hgo _ h)
  · rename_i x t ht; rw [ht]; exact .scope (hgo _ h)
  · rename_i id t ht
    rw [ht]
    split at h
    · rename_i t' he; exact .exit he (hgo _ h)
    · cases h
  · rename_i id t ht
    rw [ht]
    split at h
    · rename_i t' he; exact .goto he (hgo _ h)
    · cases h
  · rename_i x t ht
    rw [ht]
    split at h
    · split at h
      · rename_i la hla
        split at h
        · rename_i c' hcan
          refine .loop ?_
          have hc' := canon_sound (hcf.loops la (findLA_mem hla)) hcan (hc.todo _)
          exact hkl _ h K β κ ⟨F.fn, F.a, _⟩ rs w hc'
        · cases h
      · cases h
    · cases h
  · rename_i x t ht
    rw [ht]
    split at h
    · split at h
      · rename_i la hla
        split at h
        · rename_i c' hcan
          refine .inLoop ?_
          have hc' := canon_sound (hcf.loops la (findLA_mem hla)) hcan (hc.todo _)
          exact hkl _ h K β κ ⟨F.fn, F.a, _⟩ rs w hc'
        · cases h
      · cases h
    · cases h
  · rename_i id ops t ht
    rw [ht]
    split at h
    · rename_i la hla
      split at h
      · rename_i c' hcan
        refine .region ?_
        have hc' := canon_sound (hcf.joins la (findLA_mem hla)) hcan (hc.todo _)
        exact hkl _ h K β κ ⟨F.fn, F.a, _⟩ rs w hc'
      · cases h
    · exact .region (hgo _ h)
  · -- an open order
    rename_i id ops t ht
    rw [ht]
    split at h
    · rename_i hok
      split at h
      · rename_i hpl
        exact drawn_peel hmix hX hok hpl h hc.sr hc.top.slots hc.top.size hc.top.defers fun tm' H' a' w' K' β' κ' m h1 =>
          hk _ h1 K' β' κ' ⟨F.fn, a', _⟩ rs w' (hc.go m.sr m.ext m.knew m.keep m.slots m.size m.defers)
      obtain ⟨tmF, HF, h1, h2⟩ := drawn_region hmix hX (id := id) hok h hc.sr hc.top.slots hc.top.size hc.top.defers
      refine .wp h2 (fun a' w' hq => ?_) (fun e a' w' hne hq => hne hq.1)
      obtain ⟨_, K', β', κ', m⟩ := hq.tm
      exact hk _ h1 K' β' κ' ⟨F.fn, a', t⟩ rs w' (hc.go m.sr m.ext m.knew m.keep m.slots m.size m.defers)
    · cases h
  · rename_i ops t ht; rw [ht]; exact .regionEnd (hgo _ h)
  · -- an operation
    rename_i ops i rest t ht
    rw [ht]
    split at h
    · rename_i ho; exact .opNone ho (hgo _ h)
    · rename_i o ho
      obtain ⟨want, tm, h, hw, hf⟩ := guardK_sound h hc.top.slots
      split at h
      · rename_i hwt
        subst hwt
        have hplain := fun h => plain_sound (cf := cf) (k := k) (r := r) (t := t) (rest := rest) hX hk h hc hf ho hw
        split at h
        · rename_i cl hop
          split at h
          · rename_i f hcallee
            split at h
            · rename_i g caps hfv
              split at h
              · rename_i fn hfn
                split at h
                · rename_i body hbody
                  split at h
                  · cases h
                  · rename_i hname
                    have hfe := ev_sound hf f
                    rw [hfv] at hfe
                    generalize hv : F.a.eval f = fv at hfe
                    cases hfe with
                    | fn hcaps =>
                      rename_i cvs
                      have hargs : RAs K β κ c.H (cl.args.toList.map (ev tm) ++ caps) (cl.args.toList.map F.a.eval ++ cvs) := (evs_sound hf _).append hcaps
                      have hrun := run_callValue (P := P) (w := w) hop hcallee hv
                      split at h
                      · -- gone through here
                        refine .opEnter ho hw (by rw [hrun, run_callFunc hfn hbody hname]) ?_
                        rw [enter_eq hfn hbody]
                        refine hk _ h K β κ ⟨g, _, _⟩ _ w ⟨hc.sr, hc.ext, hc.knew, hc.keep, ⟨rfl, rfl, rfl, enter_fr hargs _, hfn, ?_⟩, .cons ⟨hc.top.fn, rfl, hc.top.defers, hf, hc.top.func, hc.top.size⟩ hc.rest, ?_⟩
                        · simp; omega
                        · have := hc.low
                          rw [List.getLast_cons (by simp)]
                          exact low_same this rfl
                      · -- its slices are the caller's own
                        split at h
                        · rename_i ds rt hds hrt
                          obtain ⟨as, has, h⟩ := par1 (castArgs_bind P fn ds) h
                          unfold onOwn at h
                          split at h
                          · rename_i x H' hx
                            by_cases hno : (cl.args.toList.map (ev tm) ++ caps).all (fun a => (handles a).isEmpty) = true
                            · obtain ⟨y, bs, h1, h2⟩ := own_sound hX hfn hbody hname hc.sr hargs hds hno has hx h hrun
                              split at h1
                              · rename_i tm2 hput
                                rw [if_pos hno] at h1
                                refine .does ho hw h2 fun u w' hp => ?_
                                obtain ⟨K', β', κ', hc'⟩ := Post.cr hc hp hf hput (.inRegion ops rest :: t)
                                exact hk _ h1 _ _ _ _ _ _ hc'
                              · cases h1
                            · exfalso
                              have e := castOwn_bind (P := P) rt x H' c.H.length (fun v bs => some (v, bs)) (fun p => match putDst o c.fr.f.ntmps p.1 tm with
                                | some tm2 => if (cl.args.toList.map (ev tm) ++ caps).all (fun a => (handles a).isEmpty) = true then k { c with fr := { c.fr with tm := tm2, todo := .inRegion ops rest :: t }, H := c.H ++ p.2 } else none
                                | none => none)
                              simp only [Option.bind_some] at e
                              obtain ⟨p, h1, h2⟩ := some_of_bind (e.trans h)
                              split at h2
                              · rw [if_neg hno] at h2; cases h2
                              · cases h2
                          · cases h
                        · cases h
                      · exact hplain h
                · exact hplain h
              · cases h
            · cases h
          · exact hplain h
        · exact hplain h
      · rename_i hwf
        have hwf : want = false := by simpa using hwf
        subst hwf
        split at h
        · rename_i tm2 hput
          obtain ⟨K', β', κ', hc'⟩ := Post.cr hc (.same hc.sr .undef) hf hput (.inRegion ops rest :: t)
          exact .opSkip ho hw (hk _ h _ _ _ _ _ _ hc')
        · cases h
  · cases h

theorem seg_sound (hmix : P.follows .mixedOrders = true) (hX : OrcOk P X) (hcf : CfOk cf B) {kl : Cfg → Option Res} {r : Res} (hkl : ∀ c', kl c' = some r → Sound P B c' r) : ∀ {n : Nat} {c : Cfg}, seg P X cf n c kl = some r → Sound P B c r
  | 0, _, h => by cases h
  | n + 1, c, h => step_sound hmix hX hcf h (fun _ h' => seg_sound hmix hX hcf hkl h') hkl

theorem run_sound (hmix : P.follows .mixedOrders = true) (hX : OrcOk P X) (hcf : CfOk cf B) {r : Res} : ∀ {k : Nat} {c : Cfg}, run P X cf k c = some r → Sound P B c r
  | 0, _, h => by cases h
  | _ + 1, _, h => seg_sound hmix hX hcf (fun _ h' => run_sound hmix hX hcf h') h
end step

/-- What a function is asked to be, to be gone through. -/
structure CfFor (cf : Cf) (H0 : Heap) : Prop where
  loops : ∀ la ∈ cf.loops, H0.length ≤ la.nb
  joins : ∀ la ∈ cf.joins, H0.length ≤ la.nb
  ret : H0.length = 0 ∨ (cf.ret = 1 ∧ H0.length ≤ cf.keep)

theorem runF_sim {X : Orc} {cf : Cf} {k g : Nat} {args : List AVal} {H0 : Heap} {y : AVal} {Hr : Heap} (hmix : P.follows .mixedOrders = true) (hX : OrcOk P X) (hcf : CfFor cf H0) (h : runF P X cf k g args H0 = some (y, Hr)) :
    Sim P g args H0 y Hr := by
  intro Fr K β κ w vs s ha
  unfold runF at h
  split at h
  · rename_i fn hfn
    split at h
    · rename_i body hbody
      let B : Base := ⟨g, H0.length, Fr, K, β, H0, w⟩
      have hS := run_sound (B := B) hmix hX ⟨hcf.loops, hcf.joins, hcf.ret⟩ h
      have hF := hS K β κ ⟨g, { tmps := ⟨vs⟩ ++ Array.replicate (fn.ntmps - vs.length) undef, defers := [] }, [.code body]⟩ [] w
        ⟨s, .refl _ _ _ _, .refl _ _, .refl _ _, ⟨rfl, rfl, rfl, enter_fr ha _, hfn, by simp [start]; omega⟩, .nil, rfl⟩
      have : Calls P g ⟨vs⟩ w (B.R y Hr) := by
        refine Fin.calls ?_
        rw [enter_eq hfn hbody]
        exact hF
      exact this.mono fun e w' ⟨u, he, K', β', κ', h1, h2, h3, h4, h5⟩ => ⟨u, he, K', β', κ', h1, h2, h3, h4, h5⟩
    · cases h
  · cases h
end Go.Eng

namespace Go.Eng
open Go

variable {P : Program}

def OLe (X X' : Orc) : Prop := ∀ g a H r, X g a H = some r → X' g a H = some r

theorem onCall_mono {A : Type} {r r' : Option (AVal × Heap)} (hr : ∀ x, r = some x → r' = some x) {f : DVal → Option A} {y : A} (h : onCall r f = some y) : onCall r' f = some y := by
  cases r with
  | none => cases h
  | some x => rw [hr x rfl]; exact h

theorem castArgs_le {A : Type} {fn : Func} {ds : List DVal} {f f' : List AVal → Option A} {r : A} (hf : ∀ as, f as = some r → f' as = some r) (h : castArgs P fn ds f = some r) : castArgs P fn ds f' = some r := by
  obtain ⟨as, h1, h2⟩ := par1 (castArgs_bind P fn ds) h
  have := castArgs_bind P fn ds some f'
  rw [h1] at this
  simp only [Option.bind_some] at this
  rw [← this]; exact hf _ h2

theorem plCall_mono {X X' : Orc} (hX : OLe X X') (g : FuncId) (fn : Func) (args : List AVal) :
    (plCall P X g fn args).fp = (plCall P X' g fn args).fp ∧ ∀ {A : Type} (H : Heap) (k : AVal → Heap → Option A) (r : A), (plCall P X g fn args).run H k = some r → (plCall P X' g fn args).run H k = some r := by
  unfold plCall
  dsimp only
  have main : ∀ {A : Type} (H : Heap) (ids : List Nat) (k : AVal → Option A) (r : A),
      (viewsOf H ids fun vs => match toDL (look ids vs) args with
        | some ds => castArgs P fn ds fun as => onCall (X g as []) fun r => castRes P fn.resultTypes.toList r k
        | none => none) = some r →
      (viewsOf H ids fun vs => match toDL (look ids vs) args with
        | some ds => castArgs P fn ds fun as => onCall (X' g as []) fun r => castRes P fn.resultTypes.toList r k
        | none => none) = some r := by
    intro A H ids k r h
    obtain ⟨bs, h1, h2, h3⟩ := viewsOf_some h
    rw [viewsOf_eq h1 h2]
    split at h3
    · exact castArgs_le (fun as h => onCall_mono (hX g _ _) h) h3
    · cases h3
  split
  · exact ⟨rfl, fun H k r h => main H _ _ r h⟩
  · exact ⟨rfl, fun H k r h => main H _ _ r h⟩

theorem plCallN_mono {X X' : Orc} (hX : OLe X X') (g : FuncId) (fn : Func) (args : List AVal) (nid : Nat) :
    (plCallN P X g fn args nid).fp = (plCallN P X' g fn args nid).fp ∧ ∀ {A : Type} (H : Heap) (k : AVal → Heap → Option A) (r : A), (plCallN P X g fn args nid).run H k = some r → (plCallN P X' g fn args nid).run H k = some r := by
  unfold plCallN
  split
  · split
    · refine ⟨rfl, fun H k r h => ?_⟩
      simp only [Plan.run, viewsOf] at h ⊢
      refine castArgs_le (fun as h => ?_) h
      unfold onOwn at h ⊢
      split at h
      · rename_i x Hx hx
        rw [hX _ _ _ _ hx]; exact h
      · cases h
    · exact ⟨rfl, fun _ _ _ h => h⟩
  · exact ⟨rfl, fun _ _ _ h => h⟩

theorem planOf_mono {X X' : Orc} (hX : OLe X X') (cf : Cf) (ops : Array Oper) (o : Oper) (e : Operand → AVal) (nid : Nat) :
    (planOf P X cf ops o e nid).fp = (planOf P X' cf ops o e nid).fp ∧ ∀ {A : Type} (H : Heap) (k : AVal → Heap → Option A) (r : A), (planOf P X cf ops o e nid).run H k = some r → (planOf P X' cf ops o e nid).run H k = some r := by
  unfold planOf
  cases ho : o.op <;> dsimp only
  case call c =>
    cases hc : c.callee with
    | builtin b => exact ⟨rfl, fun _ _ _ h => h⟩
    | invoke r m => exact ⟨rfl, fun _ _ _ h => h⟩
    | value f =>
      dsimp only
      split
      · split
        · split
          · exact ⟨rfl, fun _ _ _ h => h⟩
          · split
            · split
              · exact plCall_mono hX ..
              · exact plCallN_mono hX ..
              · exact ⟨rfl, fun _ _ _ h => h⟩
            · exact plCall_mono hX ..
        · exact ⟨rfl, fun _ _ _ h => h⟩
      · exact ⟨rfl, fun _ _ _ h => h⟩
  all_goals exact ⟨rfl, fun _ _ _ h => h⟩

theorem plan_le {A : Type} {pl : Plan} (hp : pl.Par) {H : Heap} {k k' : AVal → Heap → Option A} {r : A} (hk : ∀ v H', k v H' = some r → k' v H' = some r) (h : pl.run H k = some r) : pl.run H k' = some r := by
  have e := Plan.run_bind hp H (fun v H' => some (v, H')) (fun p => k p.1 p.2)
  have e' := Plan.run_bind hp H (fun v H' => some (v, H')) (fun p => k' p.1 p.2)
  simp only [Option.bind_some] at e e'
  rw [← e] at h
  obtain ⟨p, h1, h2⟩ := some_of_bind h
  rw [← e', h1]
  exact hk _ _ h2

theorem planOf_le {A : Type} {X X' : Orc} (hX : OLe X X') {cf : Cf} {ops : Array Oper} {o : Oper} {e : Operand → AVal} {nid : Nat} {H : Heap} {k k' : AVal → Heap → Option A} {r : A} (hk : ∀ v H', k v H' = some r → k' v H' = some r)
    (h : (planOf P X cf ops o e nid).run H k = some r) : (planOf P X' cf ops o e nid).run H k' = some r :=
  (planOf_mono hX cf ops o e nid).2 H k' r (plan_le (planOf_par ..) hk h)

theorem guardK_le {A : Type} {ops : Array Oper} {o : Oper} {tm : Tm} {f f' : Bool → Tm → Option A} {r : A} (hf : ∀ b t, f b t = some r → f' b t = some r) (h : guardK ops o tm f = some r) : guardK ops o tm f' = some r := by
  unfold guardK at *
  split at h
  · exact hf _ _ h
  · split at h
    · split at h
      · split at h
        · split at h
          · rename_i ht; rw [if_pos ht]; exact hf _ _ h
          · rename_i ht; rw [if_neg ht]; exact hf _ _ h
        · exact hf _ _ h
        · cases h
      · cases h
    · cases h

theorem drawOps_le {A : Type} {X X' : Orc} (hX : OLe X X') {cf : Cf} {ops : Array Oper} {bef : Array Nat} {n nid : Nat} {f f' : Tm → Heap → Option A} {r : A} (hf : ∀ t H, f t H = some r → f' t H = some r) :
    ∀ {rest : List (Nat × Oper)} {done : List (Nat × Oper × Fp)} {tm : Tm} {H : Heap}, drawOps P X cf ops bef n nid rest done tm H f = some r → drawOps P X' cf ops bef n nid rest done tm H f' = some r
  | [], _, _, _, h => hf _ _ h
  | (i, o) :: rest, done, tm, H, h => by
    simp only [drawOps] at *
    refine guardK_le (fun want tm' h => ?_) h
    split at h
    · rename_i hw
      rw [if_pos hw]
      split at h
      · rename_i hd
        rw [← (planOf_mono hX cf ops o (ev tm') (nid + i)).1, if_pos hd]
        refine planOf_le hX (fun v H' h => ?_) h
        split at h
        · exact drawOps_le hX hf h
        · cases h
      · cases h
    · rename_i hw
      rw [if_neg hw]
      split at h
      · rename_i hd
        rw [if_pos hd]
        split at h
        · exact drawOps_le hX hf h
        · cases h
      · cases h

theorem endK_le {cf : Cf} {c : Cfg} {k k' : Cfg → Option Res} {r : Res} (hk : ∀ c, k c = some r → k' c = some r) (h : endK P cf c k = some r) : endK P cf c k' = some r := by
  unfold endK at *
  split at h
  · rename_i vs hvs
    split at h
    · exact h
    · split at h
      · split at h
        · split at h
          · exact hk _ h
          · cases h
        · cases h
      · cases h
  · cases h

theorem castOwn_le {A : Type} {t : TypeId} {x : AVal} {H' : Heap} {n : Nat} {f f' : AVal → List ABlk → Option A} {r : A} (hf : ∀ v b, f v b = some r → f' v b = some r) (h : castOwn P t x H' n f = some r) : castOwn P t x H' n f' = some r := by
  have e := castOwn_bind (P := P) t x H' n (fun v bs => some (v, bs)) (fun p => f p.1 p.2)
  have e' := castOwn_bind (P := P) t x H' n (fun v bs => some (v, bs)) (fun p => f' p.1 p.2)
  simp only [Option.bind_some] at e e'
  rw [← e] at h
  obtain ⟨p, h1, h2⟩ := some_of_bind h
  rw [← e', h1]
  exact hf _ _ h2

theorem onOwn_le {A : Type} {r0 r0' : Option (AVal × Heap)} (hr : ∀ x, r0 = some x → r0' = some x) {f f' : AVal → Heap → Option A} {r : A} (hf : ∀ v b, f v b = some r → f' v b = some r) (h : onOwn r0 f = some r) : onOwn r0' f' = some r := by
  cases r0 with
  | none => cases h
  | some x => rw [hr x rfl]; exact hf _ _ h

theorem stepK_le {X X' : Orc} (hX : OLe X X') {cf : Cf} {c : Cfg} {k k' kl kl' : Cfg → Option Res} {r : Res} (hk : ∀ c, k c = some r → k' c = some r) (hl : ∀ c, kl c = some r → kl' c = some r)
    (h : stepK P X cf c k kl = some r) : stepK P X' cf c k' kl' = some r := by
  unfold stepK at *
  dsimp only at *
  split at h
  · exact endK_le hk h
  · exact endK_le hk h
  · exact hk _ h
  · exact hk _ h
  · exact hk _ h
  · exact hk _ h
  · exact hk _ h
  · split at h
    · split at h
      · rename_i hv; rw [if_pos hv]; exact hk _ h
      · rename_i hv; rw [if_neg hv]; exact hk _ h
    · split at h
      · rename_i hv; rw [if_pos hv]; exact hk _ h
      · rename_i hv; rw [if_neg hv]; exact hk _ h
    · cases h
  · exact hk _ h
  · exact hk _ h
  · split at h
    · exact hk _ h
    · cases h
  · split at h
    · exact hk _ h
    · cases h
  · split at h
    · split at h
      · split at h
        · exact hl _ h
        · cases h
      · cases h
    · cases h
  · split at h
    · split at h
      · split at h
        · exact hl _ h
        · cases h
      · cases h
    · cases h
  · split at h
    · split at h
      · exact hl _ h
      · cases h
    · exact hk _ h
  · split at h
    · rename_i hok
      rw [if_pos hok]
      split at h
      · rename_i hp
        rw [if_pos hp]
        exact drawOps_le hX (fun _ _ h => hk _ h) h
      · rename_i hp
        rw [if_neg hp]
        exact drawOps_le hX (fun _ _ h => hk _ h) h
    · cases h
  · exact hk _ h
  · split at h
    · exact hk _ h
    · refine guardK_le (fun want tm h => ?_) h
      split at h
      · rename_i hw
        rw [if_pos hw]
        have hplain : ∀ {o : Oper} {ops : Array Oper} {rest : List Nat} {t : List Item} {c : Cfg}, ((planOf P X cf ops o (ev tm) c.H.length).run c.H fun v H' => match putDst o c.fr.f.ntmps v tm with
          | some tm2 => k { c with fr := { c.fr with tm := tm2, todo := .inRegion ops rest :: t }, H := H' }
          | none => none) = some r → ((planOf P X' cf ops o (ev tm) c.H.length).run c.H fun v H' => match putDst o c.fr.f.ntmps v tm with
          | some tm2 => k' { c with fr := { c.fr with tm := tm2, todo := .inRegion ops rest :: t }, H := H' }
          | none => none) = some r := fun h => planOf_le hX (fun v H' h => by
            split at h
            · exact hk _ h
            · cases h) h
        split at h
        · split at h
          · split at h
            · split at h
              · split at h
                · split at h
                  · cases h
                  · rename_i hname
                    rw [if_neg hname]
                    split at h
                    · exact hk _ h
                    · split at h
                      · refine castArgs_le (fun as h => onOwn_le (hX _ _ _) (fun x H' h => castOwn_le (fun v bs h => ?_) h) h) h
                        split at h
                        · split at h
                          · rename_i hno; rw [if_pos hno]; exact hk _ h
                          · cases h
                        · cases h
                      · cases h
                    · exact hplain h
                · exact hplain h
              · cases h
            · cases h
          · exact hplain h
        · exact hplain h
      · rename_i hw
        rw [if_neg hw]
        split at h
        · exact hk _ h
        · cases h
  · cases h

theorem seg_le {X X' : Orc} (hX : OLe X X') {cf : Cf} {kl kl' : Cfg → Option Res} {r : Res} (hl : ∀ c, kl c = some r → kl' c = some r) : ∀ {n : Nat} {c : Cfg}, seg P X cf n c kl = some r → seg P X' cf n c kl' = some r
  | 0, _, h => by cases h
  | n + 1, c, h => stepK_le hX (fun _ h => seg_le hX hl h) hl h

theorem run_le {X X' : Orc} (hX : OLe X X') {cf : Cf} {r : Res} : ∀ {k k' : Nat} {c : Cfg}, k ≤ k' → run P X cf k c = some r → run P X' cf k' c = some r
  | 0, _, _, _, h => by cases h
  | k + 1, 0, _, hle, _ => by omega
  | k + 1, k' + 1, _, hle, h => seg_le hX (fun _ h => run_le hX (by omega) h) h

theorem runF_le {X X' : Orc} (hX : OLe X X') {cf : Cf} {r : Res} {k k' g : Nat} {args : List AVal} {H : Heap} (hle : k ≤ k') (h : runF P X cf k g args H = some r) : runF P X' cf k' g args H = some r := by
  unfold runF at *
  split at h
  · split at h
    · exact run_le hX hle h
    · cases h
  · cases h

/-- What is asked of a table's entry. -/
def Good (P : Program) (g : FuncId) (a : List AVal) (H : Heap) (r : AVal) (H' : Heap) : Prop :=
  ∀ fn, P.funcs[g]? = some fn → (fn.body ≠ none → Sim P g a H r H') ∧ (fn.body = none → H = [] → H' = [] ∧ ExtSim P g a r)

/-- What is given from outside: of which functions; what. -/
structure Giv where
  has : FuncId → Bool
  E : Orc

def Giv.Ok (P : Program) (G : Giv) : Prop := ∀ g a H r H', G.has g = true → G.E g a H = some (r, H') → Good P g a H r H'

/-- What is known: of some functions what is given; of the others by runs. -/
inductive Ev (P : Program) (G : Giv) (cfs : FuncId → Cf) : FuncId → List AVal → Heap → Res → Prop
  | giv {g : FuncId} {a : List AVal} {H : Heap} {r : Res} : G.has g = true → G.E g a H = some r → Ev P G cfs g a H r
  | run {g : FuncId} {a : List AVal} {H : Heap} {r : Res} {k : Nat} (C : Orc) : G.has g = false → CfFor (cfs g) H → (∀ g' a' H' r', C g' a' H' = some r' → Ev P G cfs g' a' H' r') → runF P C (cfs g) k g a H = some r → Ev P G cfs g a H r

theorem runF_body {C : Orc} {cf : Cf} {k g : Nat} {a : List AVal} {H : Heap} {r : Res} (h : runF P C cf k g a H = some r) : ∃ fn, P.funcs[g]? = some fn ∧ fn.body ≠ none := by
  unfold runF at h
  split at h
  · rename_i fn hfn
    split at h
    · rename_i body hb; exact ⟨fn, hfn, by rw [hb]; simp⟩
    · cases h
  · cases h

theorem Ev.fn {G : Giv} {cfs : FuncId → Cf} {g : FuncId} {a : List AVal} {H : Heap} {r r' : Res} (h : Ev P G cfs g a H r) (h' : Ev P G cfs g a H r') : r = r' := by
  induction h generalizing r' with
  | giv hb he =>
    cases h' with
    | giv _ he' => rw [he] at he'; injection he'
    | run C hn _ _ hr => rw [hb] at hn; cases hn
  | run C hn hcf hC hr ih =>
    rename_i k
    cases h' with
    | giv hb _ => rw [hb] at hn; cases hn
    | run C' hn' hcf' hC' hr' =>
      rename_i k'
      let C3 : Orc := fun g a H => (C g a H).or (C' g a H)
      have h1 : OLe C C3 := fun g a H x hx => by simp only [C3, hx, Option.some_or]
      have h2 : OLe C' C3 := fun g a H x hx => by
        simp only [C3]
        cases e : C g a H with
        | none => simp [hx]
        | some y => rw [Option.some_or, ih _ _ _ _ e (hC' _ _ _ _ hx)]
      have e1 := runF_le h1 (Nat.le_max_left k k') hr
      have e2 := runF_le h2 (Nat.le_max_right k k') hr'
      rw [e1] at e2; injection e2

open Classical in
/-- The table. -/
noncomputable def tab (P : Program) (G : Giv) (cfs : FuncId → Cf) : Orc := fun g a H => if h : ∃ r, Ev P G cfs g a H r then some h.choose else none

theorem tab_iff {G : Giv} {cfs : FuncId → Cf} {g : FuncId} {a : List AVal} {H : Heap} {r : Res} : tab P G cfs g a H = some r ↔ Ev P G cfs g a H r := by
  unfold tab
  constructor
  · intro h
    split at h
    · rename_i hx; injection h with h; subst h; exact hx.choose_spec
    · cases h
  · intro h
    have hx : ∃ r, Ev P G cfs g a H r := ⟨r, h⟩
    rw [dif_pos hx]
    exact congrArg some (hx.choose_spec.fn h)

/-- A run that asks the table goes into it. -/
theorem tab_run {G : Giv} {cfs : FuncId → Cf} {g : FuncId} {a : List AVal} {H : Heap} {r : Res} (k : Nat) (hn : G.has g = false) (hcf : CfFor (cfs g) H) (h : runF P (tab P G cfs) (cfs g) k g a H = some r) : tab P G cfs g a H = some r :=
  tab_iff.2 (.run (tab P G cfs) hn hcf (fun _ _ _ _ h => tab_iff.1 h) h)

theorem tab_giv {G : Giv} {cfs : FuncId → Cf} {g : FuncId} {a : List AVal} {H : Heap} {r : Res} (hb : G.has g = true) (h : G.E g a H = some r) : tab P G cfs g a H = some r :=
  tab_iff.2 (.giv hb h)

theorem ev_ok (hmix : P.follows .mixedOrders = true) {G : Giv} (hG : G.Ok P) {cfs : FuncId → Cf} {g : FuncId} {a : List AVal} {H : Heap} {r : Res} (h : Ev P G cfs g a H r) : Good P g a H r.1 r.2 := by
  induction h with
  | giv hb he => exact hG _ _ _ _ _ hb he
  | run C hn hcf hC hr ih =>
    intro fn hfn
    refine ⟨fun _ => ?_, fun h => ?_⟩
    · exact runF_sim hmix (fun g a H r H' h fn hfn => ih g a H (r, H') h fn hfn) hcf hr
    · obtain ⟨fn', h1, h2⟩ := runF_body hr
      rw [hfn] at h1; injection h1 with h1; subst h1
      exact absurd h h2

theorem tab_ok (hmix : P.follows .mixedOrders = true) {G : Giv} (hG : G.Ok P) (cfs : FuncId → Cf) : OrcOk P (tab P G cfs) := fun _ _ _ _ _ h fn hfn => ev_ok hmix hG (tab_iff.1 h) fn hfn

theorem tab_sim (hmix : P.follows .mixedOrders = true) {G : Giv} (hG : G.Ok P) {cfs : FuncId → Cf} {g : FuncId} {fn : Func} {body : Code} (hf : P.funcs[g]? = some fn) (hb : fn.body = some body) {a : List AVal} {H : Heap} {r : AVal} {H' : Heap}
    (h : tab P G cfs g a H = some (r, H')) : Sim P g a H r H' :=
  (tab_ok hmix hG cfs g a H r H' h fn hf).1 (by rw [hb]; simp)

/-- What a run says that asks the table itself, of a function that is to be given. -/
theorem sim_of_run (hmix : P.follows .mixedOrders = true) {X : Orc} (hX : OrcOk P X) {cf : Cf} {k g : Nat} {a : List AVal} {r : AVal} {H' : Heap} (hl : CfFor cf []) (h : runF P X cf k g a [] = some (r, H')) : Sim P g a [] r H' :=
  runF_sim hmix hX hl h
end Go.Eng

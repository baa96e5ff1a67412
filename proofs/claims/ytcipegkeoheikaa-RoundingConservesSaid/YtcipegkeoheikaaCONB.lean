/- The state at a cut: sound. -/
import Derived.Test.YtcipegkeoheikaaCONA
import Derived.Still
import Derived.Laws.StructEq
import Derived.Deep.Slices
import Derived.RowKit
import Derived.ChangeOld
import Derived.Carry
set_option linter.unusedVariables false
set_option linter.unusedSimpArgs false
namespace Go.Proofs.Ytcipegkeoheikaa.Dx
open Go

/-- The rows that came along are there still. -/
def EntR (M0 M : Mem) : Prop := ∀ j r, rget M0.rows j = some r → ∃ r', rget M.rows j = some r' ∧ r'.app = r.app ∧ ((Alike r.b r'.b ∧ M.α j = M0.α j) ∨ (r.app = true ∧ ArrLike r.b r'.b))

theorem ArrLike.trans {a b c : Body} (h : ArrLike a b) (k : ArrLike b c) : ArrLike a c := by
  obtain ⟨e, s, xs, ys, rfl, rfl⟩ := h
  obtain ⟨e', s', xs', ys', h1, rfl⟩ := k
  simp only [Body.arr.injEq] at h1
  obtain ⟨rfl, rfl, _⟩ := h1
  exact ⟨e, s, xs, ys', rfl, rfl⟩
theorem ArrLike.alike {a b c : Body} (h : ArrLike a b) (k : Alike b c) : ArrLike a c := by
  obtain ⟨e, s, xs, ys, rfl, rfl⟩ := h
  obtain ⟨zs, rfl⟩ := k.arr.1 e s ys rfl
  exact ⟨e, s, xs, zs, rfl, rfl⟩
theorem Alike.arrLike {a b c : Body} (h : Alike a b) (k : ArrLike b c) : ArrLike a c := by
  obtain ⟨e, s, xs, ys, rfl, rfl⟩ := k
  obtain ⟨zs, rfl⟩ := h.arr.2 e s xs rfl
  exact ⟨e, s, zs, ys, rfl, rfl⟩

theorem EntR.goes {M0 M M' : Mem} (h : EntR M0 M) (hg : Goes M M') : EntR M0 M' := by
  intro j r hr
  obtain ⟨r1, h1, h2, h3⟩ := h j r hr
  obtain ⟨r2, k1, k2, k3, k4⟩ := hg.rows j r1 h1
  refine ⟨r2, k1, k4.1.trans h2, ?_⟩
  by_cases e : r2.v = r1.v
  · obtain ⟨a1, a2⟩ := k3 e
    rcases h3 with ⟨b1, b2⟩ | ⟨b1, b2⟩
    · exact .inl ⟨b1.trans a1, a2.trans b2⟩
    · exact .inr ⟨b1, b2.alike a1⟩
  · obtain ⟨a1, a2⟩ := k4.2 e
    right
    refine ⟨by rw [← h2]; exact a1, ?_⟩
    rcases h3 with ⟨b1, b2⟩ | ⟨b1, b2⟩
    · exact b1.arrLike a2
    · exact b2.trans a2

/-- Each entry of the list. -/
def EnvL (M : Mem) (env : List (Nat × V)) (tmps : Array Value) : Prop := ∀ d v, (d, v) ∈ env → VR M v (tmps.getD d undef)

theorem EnvL.envR {M : Mem} {env : List (Nat × V)} {tmps : Array Value} (h : EnvL M env tmps) : EnvR M env tmps := by
  intro t
  induction env with
  | nil => exact VR.undef _
  | cons p l ih =>
    obtain ⟨d, v⟩ := p
    simp only [eget]
    cases hb : Nat.beq d t with
    | true =>
      have := Nat.eq_of_beq_eq_true hb
      subst this
      exact h d v (by simp)
    | false => exact ih fun d v hd => h d v (by simp [hd])

theorem keep_envL {M : Mem} {env : List (Nat × V)} {tmps : Array Value} (h : EnvR M env tmps) : ∀ (live : List Nat), EnvL M (keepEnv env live) tmps
  | [], d, v, hd => by simp [keepEnv] at hd
  | t :: r, d, v, hd => by
    simp only [keepEnv, List.mem_cons, Prod.mk.injEq] at hd
    rcases hd with ⟨rfl, rfl⟩ | hd
    · exact h d
    · exact keep_envL h r d v hd

theorem coerce_sound {R : Type} {w0 : World} {co : List (Nat × TypeId × Sh)} {tmps : Array Value} : ∀ {env : List (Nat × V)} {M : Mem} {K : List (Nat × V) → List (Option Row) → Option R} {r : R}, MemOk w0 M → EnvL M env tmps → coerceK co env M.rows K = some r →
    ∃ env' M', K env' M'.rows = some r ∧ MemOk w0 M' ∧ Goes M M' ∧ M'.w = M.w ∧ EnvL M' env' tmps
  | [], M, K, r, hM, _, h => ⟨[], M, h, hM, Goes.refl M, rfl, fun d v hd => by simp at hd⟩
  | (t, v) :: env, M, K, r, hM, he, h => by
    simp only [coerceK] at h
    have hv := he t v (by simp)
    have he' : EnvL M env tmps := fun d v hd => he d v (by simp [hd])
    split at h
    · rename_i e s hown
      replace h := natK_some h
      obtain ⟨a1, a2, a3⟩ := push_ok hM e s
      have hu : tmps.getD t undef = .slice none 0 0 := hv
      obtain ⟨env', M', k1, k2, k3, k4, k5⟩ := coerce_sound (M := M.to M.w (rapp M.rows [some ⟨0, false, true, .arr e s []⟩]) (setα M.α (rlen M.rows) (none, 0))) (tmps := tmps) a1
        (fun d v hd => a2.vr hM (he' d v hd)) h
      refine ⟨_, M', k1, k2, a2.trans k3, k4, fun d v hd => ?_⟩
      rcases List.mem_cons.1 hd with e1 | hd
      · simp only [Prod.mk.injEq] at e1
        obtain ⟨rfl, rfl⟩ := e1
        rw [hu]
        exact k3.vr a1 a3
      · exact k5 d v hd
    · obtain ⟨env', M', k1, k2, k3, k4, k5⟩ := coerce_sound hM he' h
      refine ⟨_, M', k1, k2, k3, k4, fun d v' hd => ?_⟩
      rcases List.mem_cons.1 hd with e1 | hd
      · simp only [Prod.mk.injEq] at e1
        obtain ⟨rfl, rfl⟩ := e1
        exact k3.vr hM hv
      · exact k5 d v' hd

theorem remap_envL {M M' : Mem} {w0 : World} {ids : List Nat} (h : Ren w0 M M' (to0 ids) true) {tmps : Array Value} : ∀ {env : List (Nat × V)}, EnvL M env tmps → EnvL M' (remapE M.rows (to0 ids) env) tmps
  | [], _, d, v, hd => by simp [remapE] at hd
  | (t, v0) :: env, he, d, v, hd => by
    simp only [remapE, List.mem_cons, Prod.mk.injEq] at hd
    rcases hd with ⟨rfl, rfl⟩ | hd
    · exact h.vr (.inl rfl) (he _ _ (by simp))
    · exact remap_envL h (fun d v hd => he d v (by simp [hd])) d v hd

/-- The renumbered memory. -/
def Mem.ren (M : Mem) (ids : List Nat) : Mem := { M with rows := rowsAt M.rows (to0 ids) ids, α := fun i => match ids[i]? with | some k => M.α k | none => (none, 0) }

theorem ren_ok {w0 : World} {M : Mem} (hM : MemOk w0 M) {ids : List Nat} (hnd : ids.Nodup) : Ren w0 M (M.ren ids) (to0 ids) true ∧ MemOk w0 (M.ren ids) := by
  have back : ∀ i r, rget (M.ren ids).rows i = some r → ∃ k r0, ids[i]? = some k ∧ rget M.rows k = some r0 ∧ r = reRow M.rows (to0 ids) r0 ∧ (M.ren ids).α i = M.α k := by
    intro i r hr
    simp only [Mem.ren] at hr ⊢
    rw [rget_rowsAt] at hr
    cases hi : ids[i]? with
    | none => rw [hi] at hr; simp at hr
    | some k =>
      rw [hi, Option.bind_some] at hr
      obtain ⟨r0, h0, h1⟩ := Option.map_eq_some_iff.1 hr
      exact ⟨k, r0, rfl, h0, h1.symm, rfl⟩
  have live : ∀ b, (M.ren ids).live b → M.live b := by
    rintro b ⟨i, r, hr, hf, ha⟩
    obtain ⟨k, r0, _, h0, rfl, hα⟩ := back i r hr
    exact ⟨k, r0, h0, hf, by rw [← hα]; exact ha⟩
  have ut : ∀ b, M.Ut b → (M.ren ids).Ut b := by
    rintro b (hb | ⟨h1, h2, h3⟩)
    · exact .inl hb
    · exact .inr ⟨h1, h2, fun hl => h3 (live b hl)⟩
  have hren : Ren w0 M (M.ren ids) (to0 ids) true := by
    refine ⟨hM, rfl, fun j k v r hto hr => ?_, fun _ => ut, fun h => by cases h⟩
    obtain ⟨hid, rfl⟩ := to0_some hto
    refine ⟨r.app, ?_, ?_⟩
    · simp only [Mem.ren]
      rw [rget_rowsAt, hid, Option.bind_some, hr]; rfl
    · simp only [Mem.ren]; rw [hid]
  refine ⟨hren, hM.size, hM.size0, hM.old, hM.os, hM.tape, hM.output, hM.disj, ?_, ?_, ?_, ?_⟩
  · intro i r hr
    obtain ⟨k, r0, _, h0, rfl, hα⟩ := back i r hr
    rw [hα]
    exact hren.body (.inl rfl) (hM.body k r0 h0)
  · intro i r b hr hf ha
    obtain ⟨k, r0, _, h0, rfl, hα⟩ := back i r hr
    rw [hα] at ha
    exact hM.plain k r0 b h0 hf ha
  · intro i r b hr hf ha
    obtain ⟨k, r0, _, h0, rfl, hα⟩ := back i r hr
    rw [hα] at ha
    exact ut b (hM.froz k r0 b h0 hf ha)
  · intro i i' r r' b hr hr' hf hf' ha ha'
    obtain ⟨k, r0, hi, h0, rfl, hα⟩ := back i r hr
    obtain ⟨k', r0', hi', h0', rfl, hα'⟩ := back i' r' hr'
    rw [hα] at ha
    rw [hα'] at ha'
    have e := hM.sep k k' r0 r0' b h0 h0' hf hf' ha ha'
    subst e
    have hlt : i < ids.length := (List.getElem?_eq_some_iff.1 hi).1
    have hlt' : i' < ids.length := (List.getElem?_eq_some_iff.1 hi').1
    have e1 : ids[i] = ids[i'] := by
      rw [List.getElem?_eq_getElem hlt] at hi
      rw [List.getElem?_eq_getElem hlt'] at hi'
      rw [Option.some.inj hi, Option.some.inj hi']
    exact (List.getElem_inj hnd).mp e1

theorem upto_get : ∀ (n a j : Nat), j < n → (upto n a)[j]? = some (a + j)
  | 0, _, j, h => by omega
  | n + 1, a, 0, _ => rfl
  | n + 1, a, j + 1, h => by
    simp only [upto, List.getElem?_cons_succ]
    rw [upto_get n (a + 1) j (by omega)]
    congr 1; omega
theorem upto_len : ∀ (n a : Nat), (upto n a).length = n
  | 0, _ => rfl
  | n + 1, a => by simp [upto, upto_len n]

theorem Alike.remap (b : Body) (rows : List (Option Row)) (to : Nat → Option (Nat × Nat)) : Alike b (b.remap rows to) := by
  cases b with
  | arr e s xs => exact ⟨rfl, rfl, rfl⟩
  | one s x => trivial
  | box cs => exact (remapL_length _ _ _).symm

theorem EntR.ren {w0 : World} {M0 M : Mem} {ids : List Nat} (hM : MemOk w0 M) (hnd : ids.Nodup) (h : EntR M0 M) (hid : ∀ j r, rget M0.rows j = some r → ids[j]? = some j) : EntR M0 (M.ren ids) := by
  intro j r hr
  obtain ⟨r', h1, h2, h3⟩ := h j r hr
  have hj := hid j r hr
  have e : rget (M.ren ids).rows j = some (reRow M.rows (to0 ids) r') := by
    simp only [Mem.ren]
    rw [rget_rowsAt, hj, Option.bind_some, h1]; rfl
  refine ⟨_, e, h2, ?_⟩
  have ha : (M.ren ids).α j = M.α j := by simp only [Mem.ren]; rw [hj]
  rcases h3 with ⟨a1, a2⟩ | ⟨a1, a2⟩
  · exact .inl ⟨a1.trans (Alike.remap _ _ _), ha.trans a2⟩
  · exact .inr ⟨a1, a2.alike (Alike.remap _ _ _)⟩

theorem canon_sound {R : Type} {w0 : World} {M0 M : Mem} {s : St} {tmps : Array Value} {live : List Nat} {co : List (Nat × TypeId × Sh)} {K : St → Option R} {r : R} (hM : MemOk w0 M) (hr : M.rows = s.rows) (he : EnvR M s.env tmps) (hent : EntR M0 M) (hm : ∀ j r, rget M0.rows j = some r → j < s.m)
    (h : canonK live co s K = some r) : ∃ s' M', K s' = some r ∧ MemOk w0 M' ∧ M'.rows = s'.rows ∧ M'.w = M.w ∧ M'.U = M.U ∧ M'.B = M.B ∧ M'.I = M.I ∧ EnvR M' s'.env tmps ∧ EntR M0 M' ∧ s'.m = s.m := by
  unfold canonK at h
  replace h := forceE_some h
  rw [← hr] at h
  obtain ⟨env, M1, h, hM1, hg1, hw1, he1⟩ := coerce_sound hM (keep_envL he live) h
  replace h := natsK_some h
  replace h := natsK_some h
  replace h := cnd_some h
  obtain ⟨hnd, h⟩ := h
  replace h := forceE_some h
  replace h := forceR_some h
  obtain ⟨hren, hM2⟩ := ren_ok hM1 (nodupB_iff hnd)
  refine ⟨_, M1.ren _, h, hM2, rfl, hw1, hg1.U, hg1.B, hg1.I, (remap_envL hren he1).envR, ?_, rfl⟩
  refine (hent.goes hg1).ren hM1 (nodupB_iff hnd) fun j r hj => ?_
  rw [napp_eq, List.getElem?_append_left (by rw [upto_len]; exact hm j r hj), upto_get _ _ _ (hm j r hj)]
  simp

end Go.Proofs.Ytcipegkeoheikaa.Dx
/- Calls: lists of rows that go along and come back. -/
namespace Go.Proofs.Ytcipegkeoheikaa.Dx
open Go

theorem nget_eq : ∀ (l : List Nat) (j : Nat), nget l j = l[j]?
  | [], _ => rfl
  | _ :: _, 0 => rfl
  | _ :: t, j + 1 => nget_eq t j
theorem nlen_eq : ∀ (l : List Nat), nlen l = l.length
  | [] => rfl
  | _ :: t => by simp [nlen, nlen_eq t]

theorem allLive_mem {rows : List (Option Row)} : ∀ {ids : List Nat}, allLive rows ids = true → ∀ k ∈ ids, ∃ r, rget rows k = some r ∧ r.fz = false
  | [], _, k, hk => by simp at hk
  | a :: t, h, k, hk => by
    simp only [allLive] at h
    split at h
    · rename_i r hr
      simp only [Bool.and_eq_true, Bool.not_eq_true'] at h
      rcases List.mem_cons.1 hk with rfl | hk
      · exact ⟨r, hr, h.1⟩
      · exact allLive_mem h.2 k hk
    · simp at h

theorem common_not : ∀ {a l : List Nat}, common a l = false → ∀ k ∈ a, k ∉ l
  | [], _, _, k, hk => by simp at hk
  | n :: t, l, h, k, hk => by
    simp only [common] at h
    cases hm : mem n l with
    | true => rw [hm] at h; simp [cnd] at h
    | false =>
      rw [hm] at h
      simp only [cnd] at h
      rcases List.mem_cons.1 hk with rfl | hk
      · intro hc; rw [(mem_iff _ _).2 hc] at hm; cases hm
      · exact common_not h k hk

theorem rget_setApp (fixed : List Nat) : ∀ (ids : List Nat) (rs : List (Option Row)) (i : Nat), rlen rs = ids.length →
    rget (setApp fixed ids rs) i = (ids[i]?).bind fun k => (rget rs i).map fun r => { r with app := r.app && !mem k fixed }
  | [], [], i, _ => by simp [setApp, rget]
  | [], _ :: _, _, h => by simp [rlen] at h
  | _ :: _, [], _, h => by simp [rlen] at h
  | k :: ks, some r :: rs, 0, _ => by simp [setApp, rget]
  | k :: ks, none :: rs, 0, _ => by simp [setApp, rget]
  | k :: ks, some r :: rs, i + 1, h => by
    simp only [setApp, rget, List.getElem?_cons_succ]
    exact rget_setApp fixed ks rs i (by simpa [rlen] using h)
  | k :: ks, none :: rs, i + 1, h => by
    simp only [setApp, rget, List.getElem?_cons_succ]
    exact rget_setApp fixed ks rs i (by simpa [rlen] using h)

theorem rlen_rowsAt (rows : List (Option Row)) (to : Nat → Option (Nat × Nat)) : ∀ (ids : List Nat), rlen (rowsAt rows to ids) = ids.length
  | [] => rfl
  | _ :: t => by simp [rowsAt, rlen, rlen_rowsAt rows to t]

/-- The key of each row that comes back. -/
theorem backRows_get {rows out : List (Option Row)} {to : Nat → Option (Nat × Nat)} : ∀ {l : List (Option Row)} {j : Nat} {ups : List (Nat × Row)}, backRows rows out to l j = some ups →
    ups.length = rlen l ∧ ∀ i, i < rlen l → ∃ r k v, rget l i = some r ∧ to (j + i) = some (k, v) ∧ ups[i]? = some (k, { v := v, fz := false, app := (match rget rows k with | some r' => r'.app | none => true), b := r.b.remap out to })
  | [], j, ups, h => by
    simp only [backRows, Option.some.injEq] at h
    subst h
    exact ⟨rfl, fun i hi => by simp [rlen] at hi⟩
  | none :: _, _, _, h => by simp [backRows] at h
  | some r :: t, j, ups, h => by
    simp only [backRows] at h
    split at h
    · rename_i k v l h1 h2
      simp only [Option.some.injEq] at h
      subst h
      obtain ⟨a1, a2⟩ := backRows_get h2
      refine ⟨by simp [rlen, a1], fun i hi => ?_⟩
      cases i with
      | zero => exact ⟨r, k, v, rfl, h1, rfl⟩
      | succ i =>
        obtain ⟨r', k', v', b1, b2, b3⟩ := a2 i (by simp only [rlen] at hi; omega)
        exact ⟨r', k', v', b1, by rw [show j + (i + 1) = j + 1 + i by omega]; exact b2, by simpa using b3⟩
    · simp at h

def keys (ups : List (Nat × Row)) : List Nat := ups.map (·.1)

theorem rget_rsets_not {k : Nat} : ∀ {ups : List (Nat × Row)} {rows : List (Option Row)}, k ∉ keys ups → rget (rsets rows ups) k = rget rows k
  | [], _, _ => rfl
  | (n, r) :: t, rows, h => by
    simp only [keys, List.map_cons, List.mem_cons, not_or] at h
    simp only [rsets]
    rw [rget_rsets_not (ups := t) h.2, rget_rset]
    simp [h.1]

theorem rget_rsets_in {k : Nat} {r : Row} : ∀ {ups : List (Nat × Row)} {rows : List (Option Row)} {i : Nat}, (keys ups).Nodup → (∀ n ∈ keys ups, n < rlen rows) → ups[i]? = some (k, r) → rget (rsets rows ups) k = some r
  | [], _, _, _, _, h => by simp at h
  | (n, r') :: t, rows, 0, hnd, hl, h => by
    simp only [List.getElem?_cons_zero, Option.some.injEq, Prod.mk.injEq] at h
    obtain ⟨rfl, rfl⟩ := h
    simp only [keys, List.map_cons, List.nodup_cons] at hnd
    simp only [rsets]
    rw [rget_rsets_not (ups := t) hnd.1, rget_rset]
    simp [hl n (by simp [keys])]
  | (n, r') :: t, rows, i + 1, hnd, hl, h => by
    simp only [keys, List.map_cons, List.nodup_cons] at hnd
    simp only [rsets]
    exact rget_rsets_in (ups := t) (i := i) hnd.2 (fun m hm => by rw [rlen_rset]; exact hl m (by simp only [keys, List.map_cons, List.mem_cons]; exact .inr hm)) (by simpa using h)

theorem pos_of {l : List Nat} {i k : Nat} (hnd : l.Nodup) (h : l[i]? = some k) : pos k l = some i := by
  induction l generalizing i with
  | nil => simp at h
  | cons a t ih =>
    cases i with
    | zero =>
      simp only [List.getElem?_cons_zero, Option.some.injEq] at h
      subst h
      simp [pos, Nat.beq_refl, cnd]
    | succ i =>
      simp only [List.getElem?_cons_succ] at h
      simp only [List.nodup_cons] at hnd
      have hne : Nat.beq a k = false := by
        cases hb : Nat.beq a k with
        | false => rfl
        | true =>
          have := Nat.eq_of_beq_eq_true hb
          subst this
          exact absurd (List.mem_of_getElem? h) hnd.1
      simp only [pos, hne, cnd]
      rw [ih hnd.2 h]

theorem pos_none {l : List Nat} {k : Nat} (h : k ∉ l) : pos k l = none := by
  cases hp : pos k l with
  | none => rfl
  | some i => exact absurd (List.mem_of_getElem? (pos_some hp)) h

theorem rowsSl_get : ∀ {l : List (Option Row)} {i : Nat} {r : Row}, rowsSl l = false → rget l i = some r → r.b.hasSl = false
  | [], _, _, _, h => by simp [rget] at h
  | some r' :: t, 0, r, hs, h => by
    simp only [rget, Option.some.injEq] at h
    subst h
    simp only [rowsSl, Bool.or_eq_false_iff] at hs
    exact hs.1
  | some r' :: t, i + 1, r, hs, h => by
    simp only [rowsSl, Bool.or_eq_false_iff] at hs
    exact rowsSl_get hs.2 h
  | none :: t, 0, r, _, h => by simp [rget] at h
  | none :: t, i + 1, r, hs, h => by
    simp only [rowsSl] at hs
    simp only [rget] at h
    exact rowsSl_get (l := t) (i := i) hs h

theorem valsSl_mem : ∀ {l : List V}, valsSl l = false → ∀ v ∈ l, v.hasSl = false
  | [], _, v, hv => by simp at hv
  | a :: t, h, v, hv => by
    simp only [valsSl, Bool.or_eq_false_iff] at h
    rcases List.mem_cons.1 hv with rfl | hv
    · exact h.1
    · exact valsSl_mem h.2 v hv

end Go.Proofs.Ytcipegkeoheikaa.Dx
/- Calls: the memory that goes along. -/
namespace Go.Proofs.Ytcipegkeoheikaa.Dx
open Go

/-- The memory that a callee sees. -/
def Mem.along (M : Mem) (ids vr fixed : List Nat) : Mem :=
  { w := M.w, rows := setApp fixed ids (rowsAt M.rows (to0 ids) ids), α := fun i => match ids[i]? with | some k => M.α k | none => (none, 0),
    U := (M.frz vr).Ut, B := M.w.heap.size, I := fun b => ∃ k, k ∈ ids ∧ (M.α k).1 = some b }

theorem along_back {M : Mem} {ids vr fixed : List Nat} {i : Nat} {r : Row} (h : rget (M.along ids vr fixed).rows i = some r) :
    ∃ k r0, ids[i]? = some k ∧ rget M.rows k = some r0 ∧ r = { reRow M.rows (to0 ids) r0 with app := r0.app && !mem k fixed } ∧ (M.along ids vr fixed).α i = M.α k := by
  simp only [Mem.along] at h ⊢
  rw [rget_setApp _ _ _ _ (rlen_rowsAt _ _ _), rget_rowsAt] at h
  cases hi : ids[i]? with
  | none => rw [hi] at h; simp at h
  | some k =>
    rw [hi] at h
    simp only [Option.bind_some] at h
    obtain ⟨r1, h1, h2⟩ := Option.map_eq_some_iff.1 h
    obtain ⟨r0, h3, h4⟩ := Option.map_eq_some_iff.1 h1
    subst h4
    exact ⟨k, r0, rfl, h3, h2.symm, rfl⟩

theorem along_fwd {M : Mem} {ids vr fixed : List Nat} {i k : Nat} {r0 : Row} (hi : ids[i]? = some k) (hr : rget M.rows k = some r0) :
    rget (M.along ids vr fixed).rows i = some { reRow M.rows (to0 ids) r0 with app := r0.app && !mem k fixed } ∧ (M.along ids vr fixed).α i = M.α k := by
  simp only [Mem.along]
  rw [rget_setApp _ _ _ _ (rlen_rowsAt _ _ _), rget_rowsAt, hi]
  simp only [Option.bind_some, hr, Option.map_some]
  exact ⟨rfl, trivial⟩

structure Along (M : Mem) (ids vr : List Nat) : Prop where
  live : allLive M.rows ids = true
  nd : ids.Nodup
  ap : common ids vr = false

theorem Along.frzLive {M : Mem} {ids vr : List Nat} (h : Along M ids vr) {b : Nat} (hb : ∃ k, k ∈ ids ∧ (M.α k).1 = some b) : (M.frz vr).live b := by
  obtain ⟨k, hk, ha⟩ := hb
  obtain ⟨r, hr, hf⟩ := allLive_mem h.live k hk
  have hn := common_not h.ap k hk
  exact ⟨k, r, by simp only [Mem.frz, Mem.to]; rw [rget_frz, hr]; simp [hn], hf, ha⟩

theorem Along.isLive {M : Mem} {ids vr : List Nat} (h : Along M ids vr) {b : Nat} (hb : ∃ k, k ∈ ids ∧ (M.α k).1 = some b) : M.live b := by
  obtain ⟨k, hk, ha⟩ := hb
  obtain ⟨r, hr, hf⟩ := allLive_mem h.live k hk
  exact ⟨k, r, hr, hf, ha⟩

theorem along_ok {w0 : World} {M : Mem} (hM : MemOk w0 M) {ids vr : List Nat} (h : Along M ids vr) (fixed : List Nat) :
    Ren w0 M (M.along ids vr fixed) (to0 ids) true ∧ MemOk M.w (M.along ids vr fixed) := by
  have hren : Ren w0 M (M.along ids vr fixed) (to0 ids) true := by
    refine ⟨hM, rfl, fun j k v r hto hr => ?_, fun _ b hb => .inl ((Mem.frz_goes hM vr).Ut hM hb), fun h => by cases h⟩
    obtain ⟨hid, rfl⟩ := to0_some hto
    obtain ⟨a1, a2⟩ := along_fwd (vr := vr) (fixed := fixed) hid hr
    exact ⟨_, a1, a2⟩
  refine ⟨hren, Nat.le_refl _, rfl, fun _ _ _ => rfl, rfl, rfl, rfl, ?_, ?_, ?_, ?_, ?_⟩
  · intro b hb
    have hlt : b < M.w.heap.size := by
      rcases hb with hb | ⟨_, hb, _⟩
      · have h1 := (hM.disj b hb).1; have h2 := hM.size; exact Nat.lt_of_lt_of_le h1 h2
      · exact hb
    refine ⟨hlt, fun hi => ?_⟩
    rcases hb with hb | ⟨_, _, hb⟩
    · exact hM.notLive hb (h.isLive hi)
    · exact hb (h.frzLive hi)
  · intro i r hr
    obtain ⟨k, r0, hi, h0, rfl, hα⟩ := along_back hr
    rw [hα]
    exact hren.body (.inl rfl) (hM.body k r0 h0)
  · intro i r b hr hf ha
    obtain ⟨k, r0, hi, h0, rfl, hα⟩ := along_back hr
    rw [hα] at ha
    exact ⟨(hM.plain k r0 b h0 hf ha).1, .inr ⟨k, List.mem_of_getElem? hi, ha⟩⟩
  · intro i r b hr hf ha
    obtain ⟨k, r0, hi, h0, rfl, hα⟩ := along_back hr
    obtain ⟨r1, hr1, hf1⟩ := allLive_mem h.live k (List.mem_of_getElem? hi)
    rw [h0] at hr1
    obtain rfl := Option.some.inj hr1
    simp only [reRow] at hf
    rw [hf1] at hf; cases hf
  · intro i i' r r' b hr hr' hf hf' ha ha'
    obtain ⟨k, r0, hi, h0, rfl, hα⟩ := along_back hr
    obtain ⟨k', r0', hi', h0', rfl, hα'⟩ := along_back hr'
    rw [hα] at ha
    rw [hα'] at ha'
    have e := hM.sep k k' r0 r0' b h0 h0' hf hf' ha ha'
    subst e
    have hlt : i < ids.length := (List.getElem?_eq_some_iff.1 hi).1
    have hlt' : i' < ids.length := (List.getElem?_eq_some_iff.1 hi').1
    have e1 : ids[i] = ids[i'] := by
      rw [List.getElem?_eq_getElem hlt] at hi
      rw [List.getElem?_eq_getElem hlt'] at hi'
      rw [Option.some.inj hi, Option.some.inj hi']
    exact (List.getElem_inj h.nd).mp e1

/-- What is handed over. -/
theorem hand_sound {R : Type} {w0 : World} {M : Mem} (hM : MemOk w0 M) {ids vr fixed : List Nat} (h : Along M ids vr) : ∀ {pars : List PM} {args : List V} {us : List Value} {K : List V → Option R} {r : R},
    (∀ n ∈ valRefs pars args, n ∈ vr) → VS M args us → handVals M.rows (to0 ids) pars args K = some r → ∃ vs, K vs = some r ∧ VS (M.along ids vr fixed) vs us
  | [], [], us, K, r, _, hv, hk => by
    cases hv
    exact ⟨[], hk, .nil⟩
  | .val s :: ps, v :: vs, us, K, r, hsub, hv, hk => by
    cases hv with
    | cons h1 h2 =>
      simp only [handVals] at hk
      obtain ⟨x, hk, hx⟩ := view_rd hM (ks := vr) (fun n hn => hsub n (by simp only [valRefs, napp_eq, List.mem_append]; exact .inl hn)) h1 hk
      obtain ⟨r', hk, hr'⟩ := hand_sound hM (fixed := fixed) h (fun n hn => hsub n (by simp only [valRefs, napp_eq, List.mem_append]; exact .inr hn)) h2 hk
      refine ⟨_, hk, .cons ?_ hr'⟩
      have hmono : ∀ {cs : List Value}, Rd (M.frz vr).w (M.frz vr).Ut s x cs → Rd (M.along ids vr fixed).w (M.along ids vr fixed).Ut s x cs := fun hr => Rd.mono (fun _ hb => .inl hb) (fun _ _ => rfl) hr
      simp only [VR, VRL] at hx ⊢
      split
      · rename_i hs; simp only [hs, if_true] at hx; obtain ⟨cs, a1, a2⟩ := hx; exact ⟨cs, hmono a1, a2⟩
      · rename_i hs; simp only [hs] at hx; exact hmono hx
  | .ref _ :: ps, v :: vs, us, K, r, hsub, hv, hk => by
    cases hv with
    | cons h1 h2 =>
      simp only [handVals] at hk
      obtain ⟨r', hk, hr'⟩ := hand_sound hM (fixed := fixed) h (fun n hn => hsub n (by simpa only [valRefs] using hn)) h2 hk
      exact ⟨_, hk, .cons ((along_ok hM h fixed).1.vr (.inl rfl) h1) hr'⟩
  | [], _ :: _, _, _, _, _, _, hk => by simp [handVals] at hk
  | .val _ :: _, [], _, _, _, _, _, hk => by simp [handVals] at hk
  | .ref _ :: _, [], _, _, _, _, _, hk => by simp [handVals] at hk

end Go.Proofs.Ytcipegkeoheikaa.Dx
/- Calls: the memory that comes back. -/
namespace Go.Proofs.Ytcipegkeoheikaa.Dx
open Go

/-- A call has come back: the callee's memory at its end, and where its rows go. -/
structure Ret (w0 : World) (M : Mem) (ids vr fixed : List Nat) (nid : Nat) (w' : World) (out : List (Option Row)) (α' : Nat → Loc) (ups : List (Nat × Row)) (sl : Bool) : Prop where
  ok : MemOk w0 M
  al : Along M ids vr
  okc : MemOk M.w ((M.along ids vr fixed).to w' out α')
  ent : EntR (M.along ids vr fixed) ((M.along ids vr fixed).to w' out α')
  fz : ∀ j r, rget out j = some r → r.fz = false
  ups : backRows M.rows out (backTo M.rows fixed ids nid) out 0 = some ups
  len : rlen out ≤ ids.length + 3
  fresh : ∀ i, nid ≤ i → i < nid + 3 → rget M.rows i = none
  room : nid + 3 ≤ rlen M.rows
  sl : sl = false → rowsSl out = false

def frzl (sl : Bool) (vr : List Nat) : List Nat := if sl then vr else []

/-- The caller's memory afterwards. -/
def Mem.back (M : Mem) (vr : List Nat) (w' : World) (α' : Nat → Loc) (ups : List (Nat × Row)) (sl : Bool) : Mem :=
  M.to w' (rsets (M.frz (frzl sl vr)).rows ups) (fun k => match pos k (keys ups) with | some j => α' j | none => M.α k)

section
variable {w0 : World} {M : Mem} {ids vr fixed : List Nat} {nid : Nat} {w' : World} {out : List (Option Row)} {α' : Nat → Loc} {ups : List (Nat × Row)} {sl : Bool}

theorem Ret.idRow (h : Ret w0 M ids vr fixed nid w' out α' ups sl) {k : Nat} (hk : k ∈ ids) : ∃ r, rget M.rows k = some r ∧ r.fz = false := allLive_mem h.al.live k hk

theorem Ret.lenI (h : Ret w0 M ids vr fixed nid w' out α' ups sl) : ids.length ≤ rlen out := by
  cases hn : ids.length with
  | zero => omega
  | succ n =>
    have hlt : n < ids.length := by omega
    obtain ⟨r, hr, _⟩ := h.idRow (List.getElem_mem hlt)
    obtain ⟨a1, _⟩ := along_fwd (vr := vr) (fixed := fixed) (List.getElem?_eq_getElem hlt) hr
    obtain ⟨r', h1, _⟩ := h.ent n _ a1
    have := rget_lt h1
    simp only [Mem.to] at this
    omega

theorem Ret.up (h : Ret w0 M ids vr fixed nid w' out α' ups sl) {j : Nat} (hj : j < rlen out) :
    ∃ r k v, rget out j = some r ∧ backTo M.rows fixed ids nid j = some (k, v) ∧ ups[j]? = some (k, { v := v, fz := false, app := (match rget M.rows k with | some r' => r'.app | none => true), b := r.b.remap out (backTo M.rows fixed ids nid) }) ∧
      (ids ++ [nid, nid + 1, nid + 2])[j]? = some k := by
  obtain ⟨_, a2⟩ := backRows_get h.ups
  obtain ⟨r, k, v, h1, h2, h3⟩ := a2 j hj
  rw [Nat.zero_add] at h2
  refine ⟨r, k, v, h1, h2, h3, ?_⟩
  unfold backTo at h2
  rw [nget_eq] at h2
  cases hi : ids[j]? with
  | some k' =>
    rw [hi] at h2
    simp only at h2
    have hlt : j < ids.length := (List.getElem?_eq_some_iff.1 hi).1
    rw [List.getElem?_append_left hlt, hi]
    split at h2
    · split at h2
      · cases hc : (_ && _ : Bool) <;> (rw [hc] at h2; simp only [cnd, Option.some.injEq, Prod.mk.injEq] at h2; rw [h2.1])
      · simp only [Option.some.injEq, Prod.mk.injEq] at h2; rw [h2.1]
    · simp at h2
  | none =>
    rw [hi] at h2
    simp only [Option.some.injEq, Prod.mk.injEq] at h2
    have hge : ids.length ≤ j := List.getElem?_eq_none_iff.1 hi
    rw [List.getElem?_append_right hge, nlen_eq] at *
    obtain ⟨rfl, _⟩ := h2
    have hl := h.len
    have : j - ids.length < 3 := by omega
    match j - ids.length, this with
    | 0, _ => rfl
    | 1, _ => rfl
    | 2, _ => rfl

theorem Ret.keys (h : Ret w0 M ids vr fixed nid w' out α' ups sl) : keys ups = (ids ++ [nid, nid + 1, nid + 2]).take (rlen out) := by
  apply List.ext_getElem?
  intro j
  have hlen : ups.length = rlen out := (backRows_get h.ups).1
  by_cases hj : j < rlen out
  · obtain ⟨r, k, v, h1, h2, h3, h4⟩ := h.up hj
    rw [List.getElem?_take_of_lt hj, h4, Dx.keys, List.getElem?_map, h3]; rfl
  · rw [List.getElem?_eq_none (by simp [Dx.keys]; omega), List.getElem?_eq_none (by simp; omega)]

theorem Ret.nd (h : Ret w0 M ids vr fixed nid w' out α' ups sl) : (Dx.keys ups).Nodup := by
  rw [h.keys]
  refine List.Nodup.sublist (List.take_sublist _ _) ?_
  refine List.nodup_append.2 ⟨h.al.nd, by simp, fun a ha b hb e => ?_⟩
  subst e
  obtain ⟨r, hr, _⟩ := h.idRow ha
  rw [h.fresh a (by simp at hb; omega) (by simp at hb; omega)] at hr
  cases hr

theorem Ret.lt (h : Ret w0 M ids vr fixed nid w' out α' ups sl) : ∀ n ∈ Dx.keys ups, n < rlen M.rows := by
  intro n hn
  rw [h.keys] at hn
  rcases List.mem_append.1 (List.mem_of_mem_take hn) with hn | hn
  · obtain ⟨r, hr, _⟩ := h.idRow hn
    exact rget_lt hr
  · have := h.room
    simp at hn; omega

theorem Ret.idKey (h : Ret w0 M ids vr fixed nid w' out α' ups sl) {k : Nat} (hk : k ∈ ids) : k ∈ Dx.keys ups := by
  obtain ⟨i, hi, e⟩ := List.mem_iff_getElem.1 hk
  rw [h.keys]
  have := h.lenI
  refine List.mem_of_getElem? (i := i) ?_
  rw [List.getElem?_take_of_lt (by omega), List.getElem?_append_left hi, List.getElem?_eq_getElem hi, e]

theorem Ret.keyRow (h : Ret w0 M ids vr fixed nid w' out α' ups sl) {j : Nat} (hj : j < rlen out) :
    ∃ r k v, rget out j = some r ∧ backTo M.rows fixed ids nid j = some (k, v) ∧ (Dx.keys ups)[j]? = some k ∧
      rget (M.back vr w' α' ups sl).rows k = some { v := v, fz := false, app := (match rget M.rows k with | some r' => r'.app | none => true), b := r.b.remap out (backTo M.rows fixed ids nid) } ∧
      (M.back vr w' α' ups sl).α k = α' j ∧ (ids ++ [nid, nid + 1, nid + 2])[j]? = some k := by
  obtain ⟨r, k, v, h1, h2, h3, h4⟩ := h.up hj
  have hk : (Dx.keys ups)[j]? = some k := by rw [Dx.keys, List.getElem?_map, h3]; rfl
  refine ⟨r, k, v, h1, h2, hk, ?_, ?_, h4⟩
  · exact rget_rsets_in h.nd (fun n hn => by simp only [Mem.frz, Mem.to]; rw [rlen_rsets]; exact h.lt n hn) h3
  · simp only [Mem.back, Mem.to]
    rw [pos_of h.nd hk]

theorem Ret.other {k : Nat} (hk : k ∉ Dx.keys ups) : rget (M.back vr w' α' ups sl).rows k = rget (M.frz (frzl sl vr)).rows k ∧ (M.back vr w' α' ups sl).α k = M.α k := by
  refine ⟨rget_rsets_not hk, ?_⟩
  simp only [Mem.back, Mem.to]
  rw [pos_none hk]

/-- A row afterwards: it came back, or it stayed. -/
theorem Ret.case (h : Ret w0 M ids vr fixed nid w' out α' ups sl) {k : Nat} {r' : Row} (hr : rget (M.back vr w' α' ups sl).rows k = some r') :
    (∃ j r v, rget out j = some r ∧ backTo M.rows fixed ids nid j = some (k, v) ∧ (Dx.keys ups)[j]? = some k ∧ r' = { v := v, fz := false, app := (match rget M.rows k with | some r' => r'.app | none => true), b := r.b.remap out (backTo M.rows fixed ids nid) } ∧ (M.back vr w' α' ups sl).α k = α' j) ∨
    (k ∉ ids ∧ k ∉ Dx.keys ups ∧ rget (M.frz (frzl sl vr)).rows k = some r' ∧ (M.back vr w' α' ups sl).α k = M.α k ∧ ∃ r0, rget M.rows k = some r0 ∧ r'.b = r0.b ∧ (r'.fz = false → r0.fz = false)) := by
  by_cases hk : k ∈ Dx.keys ups
  · left
    obtain ⟨j, hj, e⟩ := List.mem_iff_getElem.1 hk
    have hj' : j < rlen out := by rw [← (backRows_get h.ups).1]; simpa [Dx.keys] using hj
    obtain ⟨r, k', v, h1, h2, h3, h4, h5, _⟩ := h.keyRow hj'
    rw [List.getElem?_eq_getElem hj, e] at h3
    obtain rfl := Option.some.inj h3
    rw [h4] at hr
    exact ⟨j, r, v, h1, h2, by rw [List.getElem?_eq_getElem hj, e], (Option.some.inj hr).symm, h5⟩
  · right
    obtain ⟨a1, a2⟩ := Ret.other (M := M) (vr := vr) (w' := w') (α' := α') (sl := sl) hk
    rw [a1] at hr
    refine ⟨fun hi => hk (h.idKey hi), hk, hr, a2, ?_⟩
    simp only [Mem.frz, Mem.to] at hr
    rw [rget_frz] at hr
    obtain ⟨r0, h0, rfl⟩ := Option.map_eq_some_iff.1 hr
    refine ⟨r0, h0, ?_, ?_⟩
    · split <;> rfl
    · split
      · intro hf; simp [Dx.frz] at hf
      · exact id

theorem frzl_not (h : Along M ids vr) {k : Nat} (hk : k ∈ ids) : k ∉ frzl sl vr := by
  unfold frzl
  split
  · exact common_not h.ap k hk
  · simp

theorem Ret.idLive (h : Ret w0 M ids vr fixed nid w' out α' ups sl) {b : Nat} (hb : ∃ k, k ∈ ids ∧ (M.α k).1 = some b) : (M.frz (frzl sl vr)).live b := by
  obtain ⟨k, hk, ha⟩ := hb
  obtain ⟨r, hr, hf⟩ := h.idRow hk
  exact ⟨k, r, by simp only [Mem.frz, Mem.to]; rw [rget_frz, hr]; simp [frzl_not (sl := sl) h.al hk], hf, ha⟩

/-- A block that came along to be written is no other row's. -/
theorem Ret.alone (h : Ret w0 M ids vr fixed nid w' out α' ups sl) {k : Nat} {r0 : Row} {b : Nat} (hk : k ∉ ids) (h0 : rget M.rows k = some r0) (ha : (M.α k).1 = some b) : ¬ ∃ k, k ∈ ids ∧ (M.α k).1 = some b := by
  rintro ⟨k', hk', ha'⟩
  obtain ⟨r', hr', hf'⟩ := h.idRow hk'
  cases hf : r0.fz with
  | false =>
    have := h.ok.sep k k' r0 r' b h0 hr' hf hf' ha ha'
    subst this
    exact hk hk'
  | true =>
    rcases h.ok.froz k r0 b h0 hf ha with hu | ⟨_, _, hn⟩
    · exact h.ok.notLive hu ⟨k', r', hr', hf', ha'⟩
    · exact hn ⟨k', r', hr', hf', ha'⟩

theorem remap_arr {b : Body} {rows : List (Option Row)} {to : Nat → Option (Nat × Nat)} (h : ∃ e s xs, b.remap rows to = .arr e s xs) : ∃ e s xs, b = .arr e s xs := by
  obtain ⟨e, s, xs, h⟩ := h
  cases b with
  | arr e s xs => exact ⟨e, s, xs, rfl⟩
  | one s x => simp [Body.remap] at h
  | box cs => simp [Body.remap] at h

theorem Ret.goes (h : Ret w0 M ids vr fixed nid w' out α' ups sl) : Goes (M.frz (frzl sl vr)) (M.back vr w' α' ups sl) where
  U := rfl
  B := rfl
  I := rfl
  size := h.okc.size
  kept b hb hl := h.okc.old b hb fun hi => hl (h.idLive hi)
  lives b := by
    rintro ⟨k, r', hr, hf, ha⟩
    rcases h.case hr with ⟨j, r, v, h1, h2, h3, rfl, hα⟩ | ⟨hk, _, hr', hα, _⟩
    · rw [hα] at ha
      rcases (h.okc.plain j r b h1 (h.fz j r h1) ha).2 with hb | hb
      · exact .inr hb
      · exact .inl (h.idLive hb)
    · rw [hα] at ha
      exact .inl ⟨k, r', hr', hf, ha⟩
  rows k r hr := by
    by_cases hk : k ∈ Dx.keys ups
    · obtain ⟨j, hj, e⟩ := List.mem_iff_getElem.1 hk
      have hj' : j < rlen out := by rw [← (backRows_get h.ups).1]; simpa [Dx.keys] using hj
      obtain ⟨rc, k', v, h1, h2, h3, h4, h5, h6⟩ := h.keyRow hj'
      rw [List.getElem?_eq_getElem hj, e] at h3
      obtain rfl := Option.some.inj h3
      -- the row was there before
      obtain ⟨r0, hr0, hrr⟩ : ∃ r0, rget M.rows k = some r0 ∧ r.v = r0.v ∧ r.b = r0.b ∧ r.app = r0.app := by
        simp only [Mem.frz, Mem.to] at hr
        rw [rget_frz] at hr
        obtain ⟨r0, h0, rfl⟩ := Option.map_eq_some_iff.1 hr
        refine ⟨r0, h0, ?_⟩
        split <;> exact ⟨rfl, rfl, rfl⟩
      obtain ⟨ev, eb, ea⟩ := hrr
      have hid : ids[j]? = some k := by
        rcases Nat.lt_or_ge j ids.length with hlt | hge
        · rwa [List.getElem?_append_left hlt] at h6
        · rw [List.getElem?_append_right hge] at h6
          have hm := List.mem_of_getElem? h6
          rw [h.fresh k (by simp at hm; omega) (by simp at hm; omega)] at hr0
          cases hr0
      obtain ⟨a1, a2⟩ := along_fwd (vr := vr) (fixed := fixed) hid hr0
      obtain ⟨r', b1, b2, b3⟩ := h.ent j _ a1
      simp only [Mem.to] at b1
      rw [h1] at b1
      obtain rfl := Option.some.inj b1
      refine ⟨_, h4, ?_⟩
      rw [hr0]
      simp only
      have htr : Alike r0.b (r0.b.remap M.rows (to0 ids)) := Alike.remap _ _ _
      have htr' : Alike rc.b (rc.b.remap out (backTo M.rows fixed ids nid)) := Alike.remap _ _ _
      have same : ∀ {P : Prop}, (Alike r0.b (rc.b.remap out (backTo M.rows fixed ids nid)) ∧ α' j = M.α k → v = r0.v → P) → v = r0.v → (Alike (r0.b.remap M.rows (to0 ids)) rc.b ∧ α' j = (M.along ids vr fixed).α j) → P := by
        intro P f e hh
        exact f ⟨htr.trans (hh.1.trans htr'), hh.2.trans a2⟩ e
      -- the two ways
      have key : (v = r0.v ∧ Alike r0.b (rc.b.remap out (backTo M.rows fixed ids nid)) ∧ α' j = M.α k) ∨ (v = r0.v + 1 ∧ r0.app = true ∧ ArrLike r0.b (rc.b.remap out (backTo M.rows fixed ids nid))) := by
        unfold backTo at h2
        rw [nget_eq, hid] at h2
        simp only [hr0] at h2
        have mk : (Alike (r0.b.remap M.rows (to0 ids)) rc.b ∧ α' j = (M.along ids vr fixed).α j) → Alike r0.b (rc.b.remap out (backTo M.rows fixed ids nid)) ∧ α' j = M.α k := fun hh => ⟨htr.trans (hh.1.trans htr'), hh.2.trans a2⟩
        have mk2 : ArrLike (r0.b.remap M.rows (to0 ids)) rc.b → ArrLike r0.b (rc.b.remap out (backTo M.rows fixed ids nid)) := fun hh => (htr.arrLike hh).alike htr'
        split at h2
        · rename_i e s xs hbd
          cases hc : (r0.app && !mem k fixed) with
          | true =>
            rw [hc] at h2
            simp only [cnd, Option.some.injEq, Prod.mk.injEq] at h2
            right
            refine ⟨h2.2.symm, by simp only [Bool.and_eq_true] at hc; exact hc.1, ?_⟩
            rcases b3 with b3 | b3
            · obtain ⟨c1, _⟩ := mk b3
              rw [hbd] at c1 ⊢
              obtain ⟨ys, hy⟩ := c1.arr.1 e s xs rfl
              exact ⟨e, s, xs, ys, rfl, hy⟩
            · exact mk2 b3.2
          | false =>
            rw [hc] at h2
            simp only [cnd, Option.some.injEq, Prod.mk.injEq] at h2
            left
            refine ⟨h2.2.symm, ?_⟩
            rcases b3 with b3 | b3
            · exact mk b3
            · have := b3.1; simp only [hc] at this; cases this
        · rename_i hne
          simp only [Option.some.injEq, Prod.mk.injEq] at h2
          left
          refine ⟨h2.2.symm, ?_⟩
          rcases b3 with b3 | b3
          · exact mk b3
          · obtain ⟨e, s, xs, ys, c1, _⟩ := b3.2
            obtain ⟨e', s', xs', c2⟩ := remap_arr ⟨e, s, xs, c1⟩
            exact absurd c2 (hne e' s' xs')
      have eα : (M.frz (frzl sl vr)).α k = M.α k := rfl
      rcases key with ⟨e1, e2, e3⟩ | ⟨e1, e2, e3⟩
      · refine ⟨?_, fun _ => ⟨by rw [eb]; exact e2, by rw [h5, eα]; exact e3⟩, ea.symm, fun hne => ?_⟩
        · show r.v ≤ v; omega
        · exact absurd (show v = r.v by omega) hne
      · refine ⟨?_, fun he => ?_, ea.symm, fun _ => ⟨by rw [ea]; exact e2, by rw [eb]; exact e3⟩⟩
        · show r.v ≤ v; omega
        · have : v = r.v := he
          omega
    · obtain ⟨a1, a2⟩ := Ret.other (M := M) (vr := vr) (w' := w') (α' := α') (sl := sl) hk
      exact ⟨r, by rw [a1]; exact hr, Nat.le_refl _, fun _ => ⟨Alike.refl _, a2⟩, Okv.refl r⟩
end
end Go.Proofs.Ytcipegkeoheikaa.Dx
/- Calls: the caller's memory afterwards is sound. -/
namespace Go.Proofs.Ytcipegkeoheikaa.Dx
open Go

section
variable {w0 : World} {M : Mem} {ids vr fixed : List Nat} {nid : Nat} {w' : World} {out : List (Option Row)} {α' : Nat → Loc} {ups : List (Nat × Row)} {sl : Bool}

theorem Ret.ren (h : Ret w0 M ids vr fixed nid w' out α' ups sl) :
    Ren M.w ((M.along ids vr fixed).to w' out α') (M.back vr w' α' ups sl) (backTo M.rows fixed ids nid) sl := by
  refine ⟨h.okc, rfl, fun j k v r hto hr => ?_, fun hs b hb => ?_, fun hs j r hr => ⟨h.fz j r hr, rowsSl_get (h.sl hs) hr⟩⟩
  · simp only [Mem.to] at hr
    obtain ⟨r1, k1, v1, h1, h2, h3, h4, h5, _⟩ := h.keyRow (rget_lt hr)
    rw [hto] at h2
    simp only [Option.some.injEq, Prod.mk.injEq] at h2
    obtain ⟨rfl, rfl⟩ := h2
    rw [hr] at h1
    obtain rfl := Option.some.inj h1
    exact ⟨_, by rw [h4, h.fz j r hr]; rfl, h5⟩
  · have hfl : frzl sl vr = vr := by rw [hs]; rfl
    rcases hb with hb | ⟨h1, h2, h3⟩
    · have := h.goes.Ut (Mem.frz_ok h.ok _) (b := b)
      rw [hfl] at this
      exact this hb
    · have hB : M.B ≤ b ∨ M.I b := by
        rcases h1 with h1 | h1
        · exact .inl (Nat.le_trans h.ok.size h1)
        · obtain ⟨k, hk, ha⟩ := h1
          obtain ⟨r, hr, hf⟩ := h.idRow hk
          exact (h.ok.plain k r b hr hf ha).2
      refine .inr ⟨hB, h2, ?_⟩
      rintro ⟨k, r', hr, hf, ha⟩
      rcases h.case hr with ⟨j, r, v, g1, g2, g3, rfl, hα⟩ | ⟨hk, _, hr', hα, r0, hr0, _, hff⟩
      · rw [hα] at ha
        exact h3 ⟨j, r, g1, h.fz j r g1, ha⟩
      · rw [hα] at ha
        rcases h1 with h1 | h1
        · have := (h.ok.body k r0 hr0).lt ha
          exact absurd h1 (Nat.not_le.2 this)
        · exact h.alone hk hr0 ha h1

theorem Ret.mem (h : Ret w0 M ids vr fixed nid w' out α' ups sl) : MemOk w0 (M.back vr w' α' ups sl) := by
  have hg := h.goes
  have hf := Mem.frz_ok h.ok (frzl sl vr)
  have hren := h.ren
  have hin : ∀ b, (∃ k, k ∈ ids ∧ (M.α k).1 = some b) → M.B ≤ b ∨ M.I b := by
    rintro b ⟨k, hk, ha⟩
    obtain ⟨r, hr, hfz⟩ := h.idRow hk
    exact (h.ok.plain k r b hr hfz ha).2
  have stay : ∀ k r0 b, k ∉ ids → rget M.rows k = some r0 → (M.α k).1 = some b → w'.heap[b]? = M.w.heap[b]? := fun k r0 b hk hr ha =>
    h.okc.old b ((h.ok.body k r0 hr).lt ha) (h.alone hk hr ha)
  refine ⟨Nat.le_trans h.ok.size h.okc.size, h.ok.size0, fun b hb hI => ?_, h.okc.os.trans h.ok.os, h.okc.tape.trans h.ok.tape, h.okc.output.trans h.ok.output, h.ok.disj, ?_, ?_, ?_, ?_⟩
  · have hb' : b < M.w.heap.size := Nat.lt_of_lt_of_le hb h.ok.size
    refine (h.okc.old b hb' fun hi => ?_).trans (h.ok.old b hb hI)
    rcases hin b hi with h1 | h1
    · exact absurd h1 (Nat.not_le.2 hb)
    · exact hI h1
  · intro k r' hr
    rcases h.case hr with ⟨j, r, v, g1, g2, g3, rfl, hα⟩ | ⟨hk, _, hr', hα, r0, hr0, hbd, _⟩
    · rw [hα]
      refine hren.body ?_ (h.okc.body j r g1)
      cases hs : sl with
      | true => exact .inl rfl
      | false => exact .inr (rowsSl_get (h.sl hs) g1)
    · rw [hα]
      exact hg.body hf (hf.body k r' hr') fun n hn => stay k r0 n hk hr0 hn
  · intro k r' b hr hfz ha
    rcases h.case hr with ⟨j, r, v, g1, g2, g3, rfl, hα⟩ | ⟨hk, _, hr', hα, r0, hr0, hbd, hff⟩
    · rw [hα] at ha
      obtain ⟨p1, p2⟩ := h.okc.plain j r b g1 (h.fz j r g1) ha
      refine ⟨p1, ?_⟩
      rcases p2 with p2 | p2
      · exact .inl (Nat.le_trans h.ok.size p2)
      · exact hin b p2
    · rw [hα] at ha
      obtain ⟨⟨c, e, hp⟩, h2⟩ := h.ok.plain k r0 b hr0 (hff hfz) ha
      exact ⟨⟨c, e, (stay k r0 b hk hr0 ha).trans hp⟩, h2⟩
  · intro k r' b hr hfz ha
    rcases h.case hr with ⟨j, r, v, g1, g2, g3, rfl, hα⟩ | ⟨hk, _, hr', hα, r0, hr0, hbd, hff⟩
    · cases hfz
    · rw [hα] at ha
      exact hg.Ut hf (hf.froz k r' b hr' hfz ha)
  · intro k k' r r' b hr hr' hfz hfz' ha ha'
    have far : ∀ j rc k r0, rget out j = some rc → (α' j).1 = some b → k ∉ ids → rget M.rows k = some r0 → (M.α k).1 = some b → False := by
      intro j rc k r0 g1 hb1 hk hr0 hb2
      rcases (h.okc.plain j rc b g1 (h.fz j rc g1) hb1).2 with p | p
      · exact absurd p (Nat.not_le.2 ((h.ok.body k r0 hr0).lt hb2))
      · exact h.alone hk hr0 hb2 p
    rcases h.case hr with ⟨j, rc, v, g1, g2, g3, rfl, hα⟩ | ⟨hk, _, hr1, hα, r0, hr0, _, hff⟩
    · rw [hα] at ha
      rcases h.case hr' with ⟨j', rc', v', g1', g2', g3', rfl, hα'⟩ | ⟨hk', _, hr1', hα', r0', hr0', _, hff'⟩
      · rw [hα'] at ha'
        have e := h.okc.sep j j' rc rc' b g1 g1' (h.fz j rc g1) (h.fz j' rc' g1') ha ha'
        subst e
        rw [g3] at g3'
        exact Option.some.inj g3'
      · rw [hα'] at ha'
        exact (far j rc k' r0' g1 ha hk' hr0' ha').elim
    · rw [hα] at ha
      rcases h.case hr' with ⟨j', rc', v', g1', g2', g3', rfl, hα'⟩ | ⟨hk', _, hr1', hα', r0', hr0', _, hff'⟩
      · rw [hα'] at ha'
        exact (far j' rc' k r0 g1' ha' hk hr0 ha).elim
      · rw [hα'] at ha'
        exact h.ok.sep k k' r0 r0' b hr0 hr0' (hff hfz) (hff' hfz') ha ha'
end

/-! ## a function's contract -/

def retV : List Value → Value
  | [v] => v
  | vs => .tuple vs.toArray

/-- What a function of the program does: to what it is handed, to the rows that go along. -/
def Spec (P : Program) (f : FuncId) (args : List V) (rows : List (Option Row)) (res : List V) (out : List (Option Row)) : Prop :=
  ∀ (M : Mem) (us : List Value), MemOk M.w M → M.rows = rows → VS M args us →
    Calls P f us.toArray M.w fun e w' => ∃ vs α', e = .returned (retV vs) ∧ MemOk M.w (M.to w' out α') ∧ VS (M.to w' out α') res vs ∧ EntR M (M.to w' out α') ∧ ∀ j r, rget out j = some r → r.fz = false

theorem remapVS {w1 : World} {M M' : Mem} {to : Nat → Option (Nat × Nat)} {sl : Bool} (h : Ren w1 M M' to sl) {res : List V} {vs : List Value} (hv : VS M res vs) (hs : sl = true ∨ ∀ v ∈ res, v.hasSl = false) : VS M' (remapL M.rows to res) vs := by
  induction hv with
  | nil => exact .nil
  | cons h1 _ ih =>
    refine .cons (h.vr (hs.imp id fun hs => hs _ (by simp)) h1) (ih (hs.imp id fun hs v hv => hs v (by simp [hv])))

/-- A call: what the evaluator says of it, given the callee's contract. -/
theorem callOp_sound {R : Type} {P : Program} {X : Ctx R} (hC : ∀ f vs rin K (r : R), X.fnOk f = true → X.C f vs rin K = some r → ∃ res out, K res out = some r ∧ Spec P f vs rin res out)
    {w0 : World} {M : Mem} (hM : MemOk w0 M) {nid : Nat} (hn : ∀ i, nid ≤ i → i < nid + 3 → rget M.rows i = none) (hl : nid + 3 ≤ rlen M.rows) {f : FuncId} {args : List V} {us : List Value} (hv : VS M args us) {K : V → List (Nat × Row) → Option R} {r : R}
    (h : callOp X M.rows nid f args K = some r) :
    ∃ v ups, K v ups = some r ∧ X.fnOk f = true ∧ Calls P f us.toArray M.w fun e w' => ∃ u α', e = .returned u ∧ MemOk w0 (M.to w' (rsets M.rows ups) α') ∧ Goes M (M.to w' (rsets M.rows ups) α') ∧ VR (M.to w' (rsets M.rows ups) α') v u := by
  unfold callOp at h
  split at h
  · simp at h
  rename_i sg hsg
  replace h := natsK_some (natsK_some h)
  generalize hids : clo M.rows 4 (adds [] (refArgs sg.pars args)) = ids at h
  generalize hfix : fixedArgs sg.pars args = fixed at h
  replace h := cnd_some h
  obtain ⟨hc, h⟩ := h
  simp only [Bool.and_eq_true, Bool.not_eq_true'] at hc
  obtain ⟨⟨⟨hfn, hlive⟩, hnd⟩, hap⟩ := hc
  generalize hvr : valRefs sg.pars args = vr at hap
  have hal : Along M ids vr := ⟨hlive, nodupB_iff hnd, hap⟩
  obtain ⟨vs, h, hvs⟩ := hand_sound hM (fixed := fixed) hal (fun n hn => by rw [← hvr]; exact hn) hv h
  replace h := forceL_some h
  replace h := forceR_some h
  obtain ⟨res, out, h, hspec⟩ := hC _ _ _ _ _ hfn h
  simp only at h
  split at h
  case h_2 => simp at h
  rename_i ups hups
  replace h := cnd_some h
  obtain ⟨hlen, h⟩ := h
  replace h := cnd_some h
  obtain ⟨_, h⟩ := h
  rw [hvr] at h
  refine ⟨_, _, h, hfn, ?_⟩
  refine Calls.mono (hspec (M.along ids vr fixed) us (along_ok hM hal fixed).2 rfl hvs) ?_
  rintro e w' ⟨vs', α', rfl, a1, a2, a3, a4⟩
  have hlen' : rlen out ≤ ids.length + 3 := by
    have := Nat.le_of_ble_eq_true hlen
    rwa [nlen_eq] at this
  have hret : Ret w0 M ids vr fixed nid w' out α' ups (valsSl res || rowsSl out) := {
    ok := hM, al := hal, okc := a1, ent := a3, fz := a4, ups := hups, len := hlen', fresh := hn, room := hl
    sl := fun hs => by simp only [Bool.or_eq_false_iff] at hs; exact hs.2 }
  have erows : rsets M.rows (uapp (cnd (valsSl res || rowsSl out) (freeze M.rows vr) []) ups) = (M.back vr w' α' ups (valsSl res || rowsSl out)).rows := by
    rw [rsets_append]
    simp only [Mem.back, Mem.to, Mem.frz]
    cases (valsSl res || rowsSl out) <;> rfl
  refine ⟨retV vs', (M.back vr w' α' ups (valsSl res || rowsSl out)).α, rfl, ?_⟩
  rw [erows]
  have hsl : (valsSl res || rowsSl out) = true ∨ ∀ v ∈ res, v.hasSl = false := by
    cases hs : (valsSl res || rowsSl out) with
    | true => exact .inl rfl
    | false =>
      simp only [Bool.or_eq_false_iff] at hs
      exact .inr (valsSl_mem hs.1)
  refine ⟨hret.mem, (Mem.frz_goes hM _).trans hret.goes, ?_⟩
  have hrv := remapVS hret.ren a2 hsl
  show VR (M.back vr w' α' ups (valsSl res || rowsSl out)) _ _
  clear h
  cases a2 with
  | nil => exact ⟨[], rfl, rfl⟩
  | cons h1 h2 =>
    cases h2 with
    | nil =>
      cases hrv with
      | cons g1 _ => exact g1
    | cons h2 h3 => exact ⟨_, VL_ofL hrv, rfl⟩

end Go.Proofs.Ytcipegkeoheikaa.Dx
/- What an operation's outcome hangs on: the rows that its operands name. -/
namespace Go.Proofs.Ytcipegkeoheikaa.Dx
open Go

section
variable {R : Type} {rows rows' : List (Option Row)}

def Same (rows rows' : List (Option Row)) (F : List Nat) : Prop := ∀ k, k ∈ F → rget rows' k = rget rows k

theorem Same.sub {F G : List Nat} (h : Same rows rows' F) (hs : ∀ k, k ∈ G → k ∈ F) : Same rows rows' G := fun k hk => h k (hs k hk)
theorem Same.left {F G : List Nat} (h : Same rows rows' (napp F G)) : Same rows rows' F := h.sub fun k hk => by rw [napp_eq]; exact List.mem_append_left _ hk
theorem Same.right {F G : List Nat} (h : Same rows rows' (napp F G)) : Same rows rows' G := h.sub fun k hk => by rw [napp_eq]; exact List.mem_append_right _ hk

theorem viewC_loc {s : Sh} {v : V} {K : s.T → Option R} (h : Same rows rows' v.refs) : viewC rows' s v K = viewC rows s v K := by
  cases v with
  | own k ver => simp only [viewC]; rw [h k (by simp [V.refs])]
  | sub k ver lo n => simp only [viewC]; rw [h k (by simp [V.refs])]
  | _ => rfl

theorem viewL_loc : ∀ {v : V} {s : Sh} {K : s.T → Option R}, Same rows rows' v.refs → viewL rows' v s K = viewL rows v s K
  | .lcons a t, .pair p q, K, h => by
    simp only [viewL]
    simp only [V.refs] at h
    rw [viewC_loc h.left]
    congr 1
    funext x
    exact viewL_loc h.right
  | .lnil, .unit, _, _ => rfl
  | .lnil, .int _, _, _ | .lnil, .bool, _, _ | .lnil, .str, _, _ | .lnil, .pair _ _, _, _ | .lnil, .sl _, _, _ => rfl
  | .lcons _ _, .int _, _, _ | .lcons _ _, .bool, _, _ | .lcons _ _, .str, _, _ | .lcons _ _, .unit, _, _ | .lcons _ _, .sl _, _, _ => rfl
  | .undef, s, _, _ | .val _ _, s, _, _ | .nil, s, _, _ | .own _ _, s, _, _ | .sub _ _ _ _, s, _, _
  | .ptr _ _ _ _, s, _, _ | .loc _ _ _, s, _, _ | .fn _ _ _, s, _, _ | .agg _, s, _, _ | .tup _, s, _, _ => by cases s <;> rfl

theorem view_loc {s : Sh} {v : V} {K : s.T → Option R} (h : Same rows rows' v.refs) : view rows' s v K = view rows s v K := by
  cases v with
  | agg l => exact viewL_loc h
  | own k ver => exact viewC_loc h
  | sub k ver lo n => exact viewC_loc h
  | _ => rfl

theorem loadOp_loc {d : TyD} {a : V} {K : V → Option R} (h : Same rows rows' a.refs) : loadOp rows' d a K = loadOp rows d a K := by
  cases a with
  | ptr k v i j => simp only [loadOp]; rw [h k (by simp [V.refs])]
  | _ => rfl

theorem freeze_loc : ∀ {ks : List Nat}, Same rows rows' ks → freeze rows' ks = freeze rows ks
  | [], _ => rfl
  | k :: t, h => by
    simp only [freeze]
    rw [h k (by simp), freeze_loc (ks := t) (h.sub fun k hk => by simp [hk])]

theorem closeCells_loc : ∀ {l : List V}, Same rows rows' (refsL l) → closeCells rows' l = closeCells rows l
  | [], _ => rfl
  | v :: t, h => by
    simp only [refsL] at h
    simp only [closeCells]
    rw [closeCells_loc (l := t) h.right]
    cases v with
    | own k ver => simp only; rw [h.left k (by simp [V.refs])]
    | sub k ver lo n => simp only; rw [h.left k (by simp [V.refs])]
    | _ => rfl

theorem storeOp_loc {d : TyD} {a x : V} {K : List (Nat × Row) → Option R} (h : Same rows rows' a.refs) (hx : Same rows rows' x.refs) (hc : Same rows rows' (refsL x.cells)) : storeOp rows' d a x K = storeOp rows d a x K := by
  cases a with
  | ptr k v i j => simp only [storeOp]; rw [h k (by simp [V.refs]), closeCells_loc hc, freeze_loc hx]
  | _ => rfl

theorem lenOp_loc {ty : Ty} {x : V} {K : Int → Option R} (h : Same rows rows' x.refs) : lenOp rows' ty x K = lenOp rows ty x K := by
  cases x with
  | own k v => simp only [lenOp]; rw [h k (by simp [V.refs])]
  | sub k v lo n => simp only [lenOp]; rw [h k (by simp [V.refs])]
  | _ => rfl

theorem ptrOk_loc {k v : Nat} {K : Option R} (h : rget rows' k = rget rows k) : ptrOk rows' k v K = ptrOk rows k v K := by
  unfold ptrOk
  rw [h]

theorem indexAddrOp_loc {d : TyD} {es : Option Nat} {x i : V} {K : V → Option R} (h : Same rows rows' x.refs) : indexAddrOp rows' d es x i K = indexAddrOp rows d es x i K := by
  cases x with
  | own k v => simp only [indexAddrOp]; rw [h k (by simp [V.refs])]
  | sub k v lo n => simp only [indexAddrOp]; rw [h k (by simp [V.refs])]
  | _ => rfl

theorem sliceOp_loc {d : TyD} {es : Option Nat} {x : V} {lo hi : Option V} {K : V → Option R} (h : Same rows rows' x.refs) : sliceOp rows' d es x lo hi K = sliceOp rows d es x lo hi K := by
  cases x with
  | own k v => simp only [sliceOp]; rw [h k (by simp [V.refs])]
  | sub k v lo n => simp only [sliceOp]; rw [h k (by simp [V.refs])]
  | _ => rfl

theorem appendOp_loc {nid : Nat} {e : TypeId} {s : Sh} {bytes : Nat} {x y : V} {K : V → List (Nat × Row) → Option R} (hx : Same rows rows' x.refs) (hy : Same rows rows' y.refs) : appendOp rows' nid e s bytes x y K = appendOp rows nid e s bytes x y K := by
  unfold appendOp
  rw [viewC_loc hy]
  cases x with
  | own k v => simp only; rw [hx k (by simp [V.refs])]
  | _ => rfl

theorem fillElems_loc {s : Sh} {ps : List (Nat × V)} (h : Same rows rows' (refsP ps)) : ∀ {n i : Nat} {K : List s.T → Option R}, fillElems rows' s ps n i K = fillElems rows s ps n i K
  | 0, _, _ => rfl
  | n + 1, i, K => by
    have part : ∀ {ps : List (Nat × V)} {v : V}, partAt i ps = some v → ∀ k, k ∈ v.refs → k ∈ refsP ps := by
      intro ps
      induction ps with
      | nil => intro v h; simp [partAt] at h
      | cons p t ih =>
        obtain ⟨j, w⟩ := p
        intro v h k hk
        simp only [partAt] at h
        simp only [refsP, napp_eq, List.mem_append]
        cases hb : Nat.beq j i with
        | true => rw [hb] at h; simp only [cnd, Option.some.injEq] at h; subst h; exact .inl hk
        | false => rw [hb] at h; simp only [cnd] at h; exact .inr (ih h k hk)
    simp only [fillElems]
    cases hp : partAt i ps with
    | none => simp only; exact fillElems_loc h
    | some v =>
      simp only
      rw [view_loc (h.sub (part hp))]
      congr 1
      funext x
      exact fillElems_loc h
end
end Go.Proofs.Ytcipegkeoheikaa.Dx
/- An operation's outcome is one: whatever is to follow, it follows the same. -/
namespace Go.Proofs.Ytcipegkeoheikaa.Dx
open Go

/-- A computation that hands on one outcome or none. -/
def Det {α R : Type} (h : (α → Option R) → Option R) : Prop := (∀ K, h K = none) ∨ ∃ x, ∀ K, h K = K x

theorem Det.none {α R : Type} : Det (fun _ : α → Option R => (none : Option R)) := .inl fun _ => rfl
theorem Det.pure {α R : Type} (x : α) : Det (fun K : α → Option R => K x) := .inr ⟨x, fun _ => rfl⟩
theorem Det.cnd {α R : Type} {b : Bool} {h : (α → Option R) → Option R} (hd : Det h) : Det (fun K => Dx.cnd b (h K) Option.none) := by
  cases b with
  | true => exact hd
  | false => exact Det.none
theorem Det.cnd' {α R : Type} {b : Bool} {h : (α → Option R) → Option R} (hd : Det h) : Det (fun K => Dx.cnd b Option.none (h K)) := by
  cases b with
  | false => exact hd
  | true => exact Det.none
theorem Det.cnd2 {α R : Type} {b : Bool} {h h' : (α → Option R) → Option R} (hd : Det h) (hd' : Det h') : Det (fun K => Dx.cnd b (h K) (h' K)) := by
  cases b with
  | false => exact hd'
  | true => exact hd
theorem Det.cond {α R : Type} {b : Bool} {h : (α → Option R) → Option R} (hd : Det h) : Det (fun K => Bool.rec (motive := fun _ => Option R) Option.none (h K) b) := by
  cases b with
  | true => exact hd
  | false => exact Det.none
theorem Det.cond1 {α R : Type} {b : Bool} {h : (α → Option R) → Option R} (hd : Det h) : Det (fun K => _root_.cond b (h K) Option.none) := by
  cases b with
  | true => exact hd
  | false => exact Det.none
theorem Det.cond0 {α R : Type} {b : Bool} {h : (α → Option R) → Option R} (hd : Det h) : Det (fun K => _root_.cond b Option.none (h K)) := by
  cases b with
  | false => exact hd
  | true => exact Det.none
theorem Det.cond2 {α R : Type} {b : Bool} {h h' : (α → Option R) → Option R} (hd : Det h) (hd' : Det h') : Det (fun K => _root_.cond b (h K) (h' K)) := by
  cases b with
  | false => exact hd'
  | true => exact hd
theorem Det.bind {α β R : Type} {g : (α → Option R) → Option R} {h : α → (β → Option R) → Option R} (hg : Det g) (hh : ∀ x, Det (h x)) : Det (fun K => g fun x => h x K) := by
  rcases hg with hg | ⟨x, hg⟩
  · exact .inl fun K => hg _
  · rcases hh x with h1 | ⟨y, h1⟩
    · exact .inl fun K => (hg _).trans (h1 K)
    · exact .inr ⟨y, fun K => (hg _).trans (h1 K)⟩
theorem Det.dite {α R : Type} {p : Prop} [Decidable p] {h : p → (α → Option R) → Option R} (hd : ∀ e, Det (h e)) : Det (fun K => if e : p then h e K else Option.none) := by
  by_cases e : p
  · have : (fun K => if e : p then h e K else Option.none) = h e := by funext K; rw [dif_pos e]
    rw [this]; exact hd e
  · have : (fun K => if e : p then h e K else Option.none) = fun _ => Option.none := by funext K; rw [dif_neg e]
    rw [this]; exact Det.none
theorem Det.ite {α R : Type} {p : Prop} [Decidable p] {h : (α → Option R) → Option R} (hd : Det h) : Det (fun K => if p then h K else Option.none) := by
  by_cases e : p
  · have : (fun K => if p then h K else Option.none) = h := by funext K; rw [if_pos e]
    rw [this]; exact hd
  · have : (fun K => if p then h K else Option.none) = fun _ => Option.none := by funext K; rw [if_neg e]
    rw [this]; exact Det.none

theorem Det.one {α R : Type} {h : (α → Option R) → Option R} (hd : Det h) {K : α → Option R} {r : R} (hk : h K = some r) : ∃ x, K x = some r ∧ ∀ K', h K' = K' x := by
  rcases hd with hd | ⟨x, hd⟩
  · rw [hd] at hk; cases hk
  · exact ⟨x, (hd K).symm.trans hk, hd⟩

section
variable {R : Type} {rows : List (Option Row)}

theorem asSh_det {s : Sh} {v : V} : Det (fun K : s.T → Option R => asSh s v K) := by
  cases v with
  | val s' x => exact Det.dite fun e => Det.pure _
  | _ => exact Det.none

theorem asSl_det {s' s : Sh} {l : List s.T} : Det (fun K : s'.T → Option R => asSl s' s l K) := Det.dite fun e => Det.pure _

theorem viewC_det {s : Sh} {v : V} : Det (fun K : s.T → Option R => viewC rows s v K) := by
  cases v with
  | val s' x => exact Det.dite fun e => Det.pure _
  | nil => cases s <;> first | exact Det.none | exact Det.pure (α := Sh.T (.sl _)) []
  | own n ver =>
    simp only [viewC]
    cases hr : rget rows n with
    | none => exact Det.none
    | some r =>
      obtain ⟨ver', fz, app, b⟩ := r
      cases b with
      | arr e s' xs => exact Det.cnd asSl_det
      | _ => exact Det.none
  | sub n ver lo m =>
    simp only [viewC]
    cases hr : rget rows n with
    | none => exact Det.none
    | some r =>
      obtain ⟨ver', fz, app, b⟩ := r
      cases b with
      | arr e s' xs => exact Det.cnd asSl_det
      | _ => exact Det.none
  | _ => exact Det.none

theorem viewL_det : ∀ {v : V} {s : Sh}, Det (fun K : s.T → Option R => viewL rows v s K)
  | .lcons a t, .pair p q => Det.bind (h := fun x K => viewL rows t q fun y => K (x, y)) viewC_det fun x => Det.bind (h := fun y K => K (x, y)) viewL_det fun y => Det.pure (x, y)
  | .lnil, .unit => Det.pure ()
  | .lnil, .int _ | .lnil, .bool | .lnil, .str | .lnil, .pair _ _ | .lnil, .sl _ => Det.none
  | .lcons _ _, .int _ | .lcons _ _, .bool | .lcons _ _, .str | .lcons _ _, .unit | .lcons _ _, .sl _ => Det.none
  | .undef, s | .val _ _, s | .nil, s | .own _ _, s | .sub _ _ _ _, s
  | .ptr _ _ _ _, s | .loc _ _ _, s | .fn _ _ _, s | .agg _, s | .tup _, s => by cases s <;> exact Det.none

theorem view_det {s : Sh} {v : V} : Det (fun K : s.T → Option R => view rows s v K) := by
  cases v with
  | agg l => exact viewL_det
  | lnil => exact viewC_det (rows := rows) (v := .lnil)
  | lcons a b => exact viewC_det (rows := rows) (v := .lcons a b)
  | tup l => exact viewC_det (rows := rows) (v := .tup l)
  | fn a b c => exact viewC_det (rows := rows) (v := .fn a b c)
  | loc s x j => exact viewC_det (rows := rows) (v := .loc s x j)
  | ptr a b c d => exact viewC_det (rows := rows) (v := .ptr a b c d)
  | sub a b c d => exact viewC_det (rows := rows) (v := .sub a b c d)
  | own a b => exact viewC_det (rows := rows) (v := .own a b)
  | nil => exact viewC_det (rows := rows) (v := .nil)
  | val s x => exact viewC_det (rows := rows) (v := .val s x)
  | undef => exact viewC_det (rows := rows) (v := .undef)

theorem loadOne_det {d : TyD} {s : Sh} {x : s.T} {j : Nat} : Det (fun K : V → Option R => loadOne d s x j K) := by
  unfold loadOne
  refine Det.cnd2 (Det.cnd2 ?_ (Det.pure _)) (Det.cnd (Det.pure _))
  cases d.sh with
  | none => exact Det.none
  | some s' => exact Det.ite (Det.pure _)

theorem loadOp_det {d : TyD} {a : V} : Det (fun K : V → Option R => loadOp rows d a K) := by
  cases a with
  | ptr k v i j =>
    simp only [loadOp]
    cases hr : rget rows k with
    | none => exact Det.none
    | some r =>
      refine Det.cnd ?_
      cases r.b with
      | one s x => exact loadOne_det
      | arr e s xs => exact loadOne_det
      | box cs => exact Det.cnd (Det.pure _)
  | loc s x j => exact loadOne_det
  | _ => exact Det.none

theorem storeOp_det {d : TyD} {a x : V} : Det (fun K : List (Nat × Row) → Option R => storeOp rows d a x K) := by
  cases a with
  | ptr k v i j =>
    simp only [storeOp]
    cases hr : rget rows k with
    | none => exact Det.none
    | some r =>
      refine Det.cnd ?_
      cases r.b with
      | one s y =>
        refine Det.cnd ?_
        cases putOne s y j x.cells with
        | none => exact Det.pure _
        | some y' => exact Det.pure _
      | arr e s xs =>
        refine Det.cnd ?_
        cases putOne s (xs.getD i s.dflt) j (closeCells rows x.cells) with
        | none => exact Det.none
        | some y' => exact Det.cnd' (Det.pure _)
      | box cs => exact Det.cnd (Det.pure _)
  | _ => exact Det.none

theorem lenOp_det {ty : Ty} {x : V} : Det (fun K : Int → Option R => lenOp rows ty x K) := by
  cases x with
  | val s a => cases ty <;> cases s <;> first | exact Det.none | exact Det.pure _
  | nil => cases ty <;> first | exact Det.none | exact Det.pure _
  | own k v =>
    cases ty with
    | sl e =>
      simp only [lenOp]
      cases hr : rget rows k with
      | none => exact Det.none
      | some r =>
        refine Det.cnd ?_
        cases r.b <;> first | exact Det.none | exact Det.pure _
    | _ => exact Det.none
  | sub k v lo n =>
    cases ty with
    | sl e =>
      simp only [lenOp]
      cases hr : rget rows k with
      | none => exact Det.none
      | some r => exact Det.cnd (Det.pure _)
    | _ => exact Det.none
  | _ => exact Det.none

theorem inB_det {α : Type} {i : Int} {n : Nat} {x : α} : Det (fun K : α → Option R => inB i n (K x)) := Det.cond1 (Det.cond1 (Det.pure _))

theorem indexAddrOp_det {d : TyD} {es : Option Nat} {x i : V} : Det (fun K : V → Option R => indexAddrOp rows d es x i K) := by
  cases i with
  | val si i =>
    cases si with
    | int k0 =>
      simp only [indexAddrOp]
      cases d.ty with
      | sl e =>
        cases x with
        | val s l => cases s <;> first | exact Det.none | exact Det.cnd inB_det
        | own k v =>
          simp only
          cases hr : rget rows k with
          | none => exact Det.none
          | some r =>
            refine Det.cnd ?_
            cases r.b <;> first | exact Det.none | exact Det.cnd inB_det
        | sub k v lo n =>
          simp only
          cases hr : rget rows k with
          | none => exact Det.none
          | some r =>
            refine Det.cnd ?_
            cases r.b <;> first | exact Det.none | exact Det.cnd inB_det
        | _ => exact Det.none
      | _ => exact Det.none
    | _ => exact Det.none
  | _ => exact Det.none

theorem lowB_det {lo : Option V} {h : Nat} : Det (fun K : Nat × Nat → Option R => lowB lo h fun a b => K (a, b)) := by
  cases lo with
  | none => exact Det.pure (α := Nat × Nat) (0, h)
  | some v =>
    cases v with
    | val s l => cases s <;> first | exact Det.none | exact Det.cond1 (Det.cond1 (Det.pure (α := Nat × Nat) (_, _)))
    | _ => exact Det.none

theorem bounds_det {n : Nat} {lo hi : Option V} : Det (fun K : Nat × Nat → Option R => bounds n lo hi fun a b => K (a, b)) := by
  cases hi with
  | none => exact lowB_det
  | some v =>
    cases v with
    | val s l => cases s <;> first | exact Det.none | exact Det.cond1 (Det.cond1 lowB_det)
    | _ => exact Det.none

theorem bounds_to {n : Nat} {lo hi : Option V} (f : Nat → Nat → V) : Det (fun K : V → Option R => bounds n lo hi fun a b => K (f a b)) :=
  Det.bind (g := fun K : Nat × Nat → Option R => bounds n lo hi fun a b => K (a, b)) (h := fun x K => K (f x.1 x.2)) bounds_det fun x => Det.pure _

theorem sliceOp_det {d : TyD} {es : Option Nat} {x : V} {lo hi : Option V} : Det (fun K : V → Option R => sliceOp rows d es x lo hi K) := by
  cases x with
  | val s l =>
    simp only [sliceOp]
    cases d.ty <;> cases s <;> first | exact Det.none | exact bounds_to _ | exact Det.cnd (bounds_to _)
  | nil =>
    simp only [sliceOp]
    cases d.ty <;> cases es <;> first | exact Det.none | exact bounds_to _
  | own k v =>
    simp only [sliceOp]
    cases hr : rget rows k with
    | none => exact Det.none
    | some r =>
      refine Det.cnd ?_
      cases r.b <;> cases d.ty <;> first | exact Det.none | exact Det.cnd (bounds_to _)
  | sub k v l0 n =>
    simp only [sliceOp]
    cases hr : rget rows k with
    | none => exact Det.none
    | some r =>
      refine Det.cnd ?_
      cases r.b <;> cases d.ty <;> first | exact Det.none | exact Det.cnd (bounds_to _)
  | _ => exact Det.none

theorem mmL_det {mx : Bool} : ∀ {l : List V} {a : Int}, Det (fun K : Int → Option R => mmL mx a l K)
  | [], a => Det.pure a
  | v :: t, a => by
    cases v with
    | val s b => cases s <;> first | exact Det.none | exact mmL_det (l := t) (a := _root_.cond mx (max a b) (min a b))
    | _ => exact Det.none

theorem mmOp_det {mx : Bool} {l : List V} : Det (fun K : V → Option R => mmOp mx l K) := by
  cases l with
  | nil => exact Det.none
  | cons v t =>
    cases v with
    | val s a => cases s <;> first | exact Det.none | exact Det.bind (h := fun x K => K (V.val (.int _) x)) mmL_det fun x => Det.pure _
    | _ => exact Det.none

theorem ptrOk_det {α : Type} {k v : Nat} {x : α} : Det (fun K : α → Option R => ptrOk rows k v (K x)) := by
  unfold ptrOk
  cases hr : rget rows k with
  | none => exact Det.none
  | some r => exact Det.cnd (Det.pure _)

theorem intOp_det {op : BinOp} {k : IntKind} {a b : Int} : Det (fun K : V → Option R => intOp op k a b K) := by
  cases op <;> first | exact Det.none | exact Det.pure _ | exact Det.cond0 (Det.pure _) | exact Det.cond1 (Det.pure _)
theorem strOp_det {op : BinOp} {a b : ByteArray} : Det (fun K : V → Option R => strOp op a b K) := by
  cases op <;> first | exact Det.none | exact Det.pure _ | exact Det.cond0 (Det.pure _) | exact Det.cond1 (Det.pure _)
theorem eqOp_det {op : BinOp} {s : Sh} {a b : s.T} : Det (fun K : V → Option R => eqOp op s a b K) := by
  unfold eqOp
  cases s.eqb a b with
  | none => exact Det.none
  | some t => cases op <;> first | exact Det.none | exact Det.pure _

theorem bin_det {d : TyD} {e : Bool} {op : BinOp} {x y : V} : Det (fun K : V → Option R => bin d e op x y K) := by
  cases x with
  | val s a =>
    cases y with
    | val s' b =>
      cases s with
      | int k =>
        cases s' with
        | int k' =>
          refine Det.ite ?_
          cases d.ty <;> first | exact Det.none | exact intOp_det
        | _ => exact Det.none
      | str =>
        cases s' with
        | str =>
          simp only [bin]
          cases d.ty <;> first | exact Det.none | exact strOp_det
        | _ => exact Det.none
      | bool =>
        cases s' with
        | bool =>
          simp only [bin]
          cases d.ty <;> first | exact Det.none | exact eqOp_det
        | _ => exact Det.none
      | pair p q =>
        have : Det (fun K : V → Option R => (match d.ty, e with
          | .struct _, true => if h : s' = .pair p q then (if d.sh = some (.pair p q) then eqOp op (.pair p q) a (h ▸ b) K else none) else none
          | _, _ => none)) := by
          cases d.ty <;> cases e <;> first | exact Det.none | exact Det.dite fun _ => Det.ite eqOp_det
        cases s' <;> exact this
      | _ => exact Det.none
    | _ => exact Det.none
  | _ => exact Det.none

theorem un_det {op : UnOp} {x : V} : Det (fun K : V → Option R => un op x K) := by
  cases x with
  | val s a => cases op <;> cases s <;> first | exact Det.none | exact Det.pure _
  | _ => exact Det.none

theorem conv_det {a b : TyD} {x : V} : Det (fun K : V → Option R => conv a b x K) := by
  cases x with
  | val s y =>
    simp only [conv]
    cases b.ty <;> cases s <;> cases a.ty <;> first | exact Det.none | exact Det.pure _
  | _ => exact Det.none

theorem fillElems_det {s : Sh} {ps : List (Nat × V)} : ∀ {n i : Nat}, Det (fun K : List s.T → Option R => fillElems rows s ps n i K)
  | 0, _ => Det.pure _
  | n + 1, i => by
    simp only [fillElems]
    cases partAt i ps with
    | none => exact Det.bind (h := fun r K => K (s.dflt :: r)) fillElems_det fun _ => Det.pure _
    | some v => exact Det.bind (h := fun x K => fillElems rows s ps n (i + 1) fun r => K (x :: r)) view_det fun x => Det.bind (h := fun r K => K (x :: r)) fillElems_det fun _ => Det.pure _
end
end Go.Proofs.Ytcipegkeoheikaa.Dx
/- An operation's outcome is one. -/
namespace Go.Proofs.Ytcipegkeoheikaa.Dx
open Go

section
variable {R : Type}
theorem natK_det : ∀ (n : Nat), Det (fun K : Nat → Option R => natK n K)
  | 0 => .pure (α := Nat) 0
  | 1 => .pure (α := Nat) 1
  | 2 => .pure (α := Nat) 2
  | 3 => .pure (α := Nat) 3
  | 4 => .pure (α := Nat) 4
  | 5 => .pure (α := Nat) 5
  | 6 => .pure (α := Nat) 6
  | 7 => .pure (α := Nat) 7
  | 8 => .pure (α := Nat) 8
  | 9 => .pure (α := Nat) 9
  | 10 => .pure (α := Nat) 10
  | 11 => .pure (α := Nat) 11
  | 12 => .pure (α := Nat) 12
  | 13 => .pure (α := Nat) 13
  | 14 => .pure (α := Nat) 14
  | 15 => .pure (α := Nat) 15
  | 16 => .pure (α := Nat) 16
  | 17 => .pure (α := Nat) 17
  | 18 => .pure (α := Nat) 18
  | 19 => .pure (α := Nat) 19
  | 20 => .pure (α := Nat) 20
  | 21 => .pure (α := Nat) 21
  | 22 => .pure (α := Nat) 22
  | 23 => .pure (α := Nat) 23
  | 24 => .pure (α := Nat) 24
  | 25 => .pure (α := Nat) 25
  | 26 => .pure (α := Nat) 26
  | 27 => .pure (α := Nat) 27
  | 28 => .pure (α := Nat) 28
  | 29 => .pure (α := Nat) 29
  | 30 => .pure (α := Nat) 30
  | 31 => .pure (α := Nat) 31
  | 32 => .pure (α := Nat) 32
  | 33 => .pure (α := Nat) 33
  | 34 => .pure (α := Nat) 34
  | 35 => .pure (α := Nat) 35
  | 36 => .pure (α := Nat) 36
  | 37 => .pure (α := Nat) 37
  | 38 => .pure (α := Nat) 38
  | 39 => .pure (α := Nat) 39
  | 40 => .pure (α := Nat) 40
  | 41 => .pure (α := Nat) 41
  | 42 => .pure (α := Nat) 42
  | 43 => .pure (α := Nat) 43
  | 44 => .pure (α := Nat) 44
  | 45 => .pure (α := Nat) 45
  | 46 => .pure (α := Nat) 46
  | 47 => .pure (α := Nat) 47
  | n + 48 => .inl fun _ => rfl

theorem boolK_det (b : Bool) : Det (fun K : Bool → Option R => boolK b K) := by cases b <;> exact Det.pure _

theorem natsK_det : ∀ (l : List Nat), Det (fun K : List Nat → Option R => natsK l K)
  | [] => Det.pure _
  | n :: t => Det.bind (h := fun n K => natsK t fun t => K (n :: t)) (natK_det n) fun n => Det.bind (h := fun t K => K (n :: t)) (natsK_det t) fun t => Det.pure _

theorem forceV_det : ∀ (v : V), Det (fun K : V → Option R => forceV v K)
  | .own k v => Det.bind (h := fun k K => natK v fun v => K (V.own k v)) (natK_det k) fun k => Det.bind (h := fun v K => K (V.own k v)) (natK_det v) fun v => Det.pure _
  | .sub k v lo n => Det.bind (h := fun k K => natK v fun v => K (V.sub k v lo n)) (natK_det k) fun k => Det.bind (h := fun v K => K (V.sub k v lo n)) (natK_det v) fun v => Det.pure _
  | .ptr k v i j => Det.bind (h := fun k K => natK v fun v => natK j fun j => K (V.ptr k v i j)) (natK_det k) fun k => Det.bind (h := fun v K => natK j fun j => K (V.ptr k v i j)) (natK_det v) fun v => Det.bind (h := fun j K => K (V.ptr k v i j)) (natK_det j) fun j => Det.pure _
  | .loc s x j => Det.bind (h := fun j K => K (V.loc s x j)) (natK_det j) fun j => Det.pure _
  | .fn f a b => Det.bind (h := fun a K => forceV b fun b => K (V.fn f a b)) (forceV_det a) fun a => Det.bind (h := fun b K => K (V.fn f a b)) (forceV_det b) fun b => Det.pure _
  | .agg l => Det.bind (h := fun l K => K (V.agg l)) (forceV_det l) fun l => Det.pure _
  | .tup l => Det.bind (h := fun l K => K (V.tup l)) (forceV_det l) fun l => Det.pure _
  | .lcons a t => Det.bind (h := fun a K => forceV t fun t => K (V.lcons a t)) (forceV_det a) fun a => Det.bind (h := fun b K => K (V.lcons a b)) (forceV_det t) fun b => Det.pure _
  | .val s x => Det.pure _
  | .nil => Det.pure _
  | .undef => Det.pure _
  | .lnil => Det.pure _

theorem forceL_det : ∀ (l : List V), Det (fun K : List V → Option R => forceL l K)
  | [] => Det.pure _
  | v :: t => Det.bind (h := fun v K => forceL t fun t => K (v :: t)) (forceV_det v) fun v => Det.bind (h := fun t K => K (v :: t)) (forceL_det t) fun t => Det.pure _

theorem forceB_det (b : Body) : Det (fun K : Body → Option R => forceB b K) := by
  cases b with
  | arr e s x => exact Det.pure _
  | one s x => exact Det.pure _
  | box l => exact Det.bind (h := fun l K => K (Body.box l)) (forceL_det l) fun l => Det.pure _

theorem forceR_det : ∀ (l : List (Option Row)), Det (fun K : List (Option Row) → Option R => forceR l K)
  | [] => Det.pure _
  | none :: t => Det.bind (h := fun t K => K (none :: t)) (forceR_det t) fun t => Det.pure _
  | some ⟨v, fz, app, b⟩ :: t => Det.bind (h := fun v K => boolK fz fun fz => boolK app fun app => forceB b fun b => forceR t fun t => K (some ⟨v, fz, app, b⟩ :: t)) (natK_det v) fun v =>
      Det.bind (h := fun fz K => boolK app fun app => forceB b fun b => forceR t fun t => K (some ⟨v, fz, app, b⟩ :: t)) (boolK_det fz) fun fz =>
      Det.bind (h := fun app K => forceB b fun b => forceR t fun t => K (some ⟨v, fz, app, b⟩ :: t)) (boolK_det app) fun app =>
      Det.bind (h := fun b K => forceR t fun t => K (some ⟨v, fz, app, b⟩ :: t)) (forceB_det b) fun b =>
      Det.bind (h := fun t K => K (some ⟨v, fz, app, b⟩ :: t)) (forceR_det t) fun t => Det.pure _

variable {rows : List (Option Row)}

theorem appendOp_det {nid : Nat} {e : TypeId} {s : Sh} {bytes : Nat} {x y : V} : Det (fun K : V × List (Nat × Row) → Option R => appendOp rows nid e s bytes x y fun v u => K (v, u)) := by
  unfold appendOp
  refine Det.cnd (Det.bind (g := fun K : (Sh.sl s).T → Option R => viewC rows (.sl s) y K) viewC_det fun ys => ?_)
  cases x with
  | nil => exact Det.cond1 (Det.pure _)
  | own k v =>
    simp only
    cases hr : rget rows k with
    | none => exact Det.none
    | some r =>
      refine Det.cnd ?_
      cases r.b with
      | arr e' s' xs => exact Det.cnd (Det.dite fun _ => Det.cond1 (Det.pure _))
      | _ => exact Det.none
  | _ => exact Det.none

theorem handVals_det {to : Nat → Option (Nat × Nat)} : ∀ {ps : List PM} {vs : List V}, Det (fun K : List V → Option R => handVals rows to ps vs K)
  | [], [] => Det.pure _
  | .val s :: ps, v :: vs => Det.bind (h := fun x K => handVals rows to ps vs fun r => K (V.val s x :: r)) view_det fun x => Det.bind (h := fun r K => K (V.val s x :: r)) handVals_det fun r => Det.pure _
  | .ref _ :: ps, v :: vs => Det.bind (h := fun r K => K (v.remap rows to :: r)) handVals_det fun r => Det.pure _
  | [], _ :: _ => Det.none
  | .val _ :: _, [] => Det.none
  | .ref _ :: _, [] => Det.none

theorem callOp_det {X : Ctx R} (hC : ∀ f vs rin, Det (fun K : List V × List (Option Row) → Option R => X.C f vs rin fun a b => K (a, b))) {nid : Nat} {f : FuncId} {args : List V} :
    Det (fun K : V × List (Nat × Row) → Option R => callOp X rows nid f args fun v u => K (v, u)) := by
  unfold callOp
  cases X.sig f with
  | none => exact Det.none
  | some sg =>
    simp only
    refine Det.bind (g := fun K => natsK (clo rows 4 (adds [] (refArgs sg.pars args))) K) (natsK_det _) fun ids => ?_
    refine Det.bind (g := fun K => natsK (fixedArgs sg.pars args) K) (natsK_det _) fun fixed => ?_
    refine Det.cnd ?_
    refine Det.bind (g := fun K => handVals rows (to0 ids) sg.pars args K) handVals_det fun vs => ?_
    refine Det.bind (g := fun K => forceL vs K) (forceL_det _) fun vs => ?_
    refine Det.bind (g := fun K => forceR (setApp fixed ids (rowsAt rows (to0 ids) ids)) K) (forceR_det _) fun rin => ?_
    refine Det.bind (g := fun K : List V × List (Option Row) → Option R => X.C f vs rin fun a b => K (a, b)) (h := fun x K => (match backRows rows x.2 (backTo rows fixed ids nid) x.2 0 with
          | some ups => cnd (Nat.ble (rlen x.2) (nlen ids + 3)) (
            cnd (nomix ids (cnd (valsSl x.1 || rowsSl x.2) (freeze rows (valRefs sg.pars args)) []))
              (K ((match x.1 with
                | [v] => v.remap x.2 (backTo rows fixed ids nid)
                | vs => V.tup (.ofL (remapL x.2 (backTo rows fixed ids nid) vs))), (uapp (cnd (valsSl x.1 || rowsSl x.2) (freeze rows (valRefs sg.pars args)) []) ups))) none) none
          | none => none)) (hC _ _ _) fun x => ?_
    cases backRows rows x.2 (backTo rows fixed ids nid) x.2 0 with
    | none => exact Det.none
    | some ups => exact Det.cnd (Det.cnd (Det.pure _))
end
end Go.Proofs.Ytcipegkeoheikaa.Dx
/- An operation's outcome is one, and hangs on its footprint alone. -/
namespace Go.Proofs.Ytcipegkeoheikaa.Dx
open Go

section
variable {R : Type} {X : Ctx R}

theorem toV {h : (V → Option R) → Option R} (hd : Det h) : Det (fun K : V × List (Nat × Row) → Option R => h fun v => K (v, [])) :=
  Det.bind (g := h) (h := fun v K => K (v, [])) hd fun v => Det.pure _

theorem effK_det (hC : ∀ f vs rin, Det (fun K : List V × List (Option Row) → Option R => X.C f vs rin fun a b => K (a, b))) {env : List (Nat × V)} {rows : List (Option Row)} {nid : Nat} {o : Oper} :
    Det (fun K : V × List (Nat × Row) → Option R => effK X env rows nid o fun v u => K (v, u)) := by
  obtain ⟨dst, op, ty, pos, after, guard⟩ := o
  cases op with
  | move x => exact Det.pure _
  | assign x => exact Det.pure _
  | pick c a b => exact Det.bind (g := fun K : Bool → Option R => asSh .bool (evalO env c) K) (h := fun t K => cond t (K (evalO env a, [])) (K (evalO env b, []))) (asSh_det (s := .bool)) fun t => Det.cond2 (Det.pure _) (Det.pure _)
  | alloc e =>
    refine Det.cnd ?_
    cases (X.ty e).ty <;> first | exact Det.none | exact Det.pure _
  | box e x => exact Det.cnd (Det.pure _)
  | build t parts =>
    simp only [effK]
    cases (X.ty t).ty with
    | struct fs =>
      refine Det.cnd ?_
      cases fillParts fs (X.ty t).zero.cells (evalParts env parts.toList) with
      | none => exact Det.none
      | some cs => exact Det.pure _
    | _ => exact Det.none
  | buildSlice t len parts =>
    simp only [effK]
    cases (X.ty t).ty with
    | sl e =>
      simp only
      cases (X.ty e).sh with
      | none => exact Det.none
      | some s =>
        refine Det.cnd ?_
        exact Det.bind (g := fun K : List s.T → Option R => fillElems rows s (evalParts env parts.toList) len 0 K) fillElems_det fun xs => Det.pure _
    | _ => exact Det.none
  | load t a => exact Det.cnd (toV loadOp_det)
  | store t a x => exact Det.cnd (Det.bind (g := fun K : List (Nat × Row) → Option R => storeOp rows (X.ty t) (evalO env a) (evalO env x) K) storeOp_det fun u => Det.pure _)
  | nilCheck x =>
    simp only [effK]
    cases evalO env x <;> first | exact Det.none | exact Det.pure _
  | binOp op t x y yt => exact toV bin_det
  | unOp op t x => exact toV un_det
  | convert s t x => exact Det.cnd (toV conv_det)
  | makeFunc fn first caps =>
    cases fn <;> first | exact Det.none | exact Det.pure _
  | makeSlice t l c =>
    simp only [effK]
    cases (X.ty t).ty with
    | sl e =>
      simp only
      cases (X.ty e).sh with
      | none => exact Det.none
      | some s =>
        cases evalO env l with
        | val sl l =>
          cases sl with
          | int k =>
            cases evalO env c with
            | val sc c =>
              cases sc <;> first | exact Det.none | exact Det.cond1 (Det.cond1 (Det.cond1 (Det.pure _)))
            | _ => exact Det.none
          | _ => exact Det.none
        | _ => exact Det.none
    | _ => exact Det.none
  | slice t x lo hi mx =>
    cases mx with
    | none => exact toV sliceOp_det
    | some m => exact Det.none
  | fieldAddr t x f =>
    simp only [effK]
    cases (X.ty t).ty with
    | struct fs =>
      simp only
      cases fget fs f with
      | none => exact Det.none
      | some fl => cases evalO env x <;> first | exact Det.none | exact Det.cnd' ptrOk_det | exact Det.cnd' (Det.pure _)
    | _ => exact Det.none
  | field t x f =>
    simp only [effK]
    cases (X.ty t).ty with
    | struct fs =>
      simp only
      cases fget fs f with
      | none => exact Det.none
      | some fl => exact Det.cnd (Det.pure _)
    | _ => exact Det.none
  | indexAddr t x i => exact toV indexAddrOp_det
  | index t x i =>
    simp only [effK]
    cases (X.ty t).ty with
    | str =>
      cases evalO env x with
      | val s l =>
        cases s with
        | str =>
          cases evalO env i with
          | val si i => cases si <;> first | exact Det.none | exact inB_det
          | _ => exact Det.none
        | _ => exact Det.none
      | _ => exact Det.none
    | _ => exact Det.none
  | extract x i =>
    simp only [effK]
    cases evalO env x with
    | tup l => exact Det.cnd (Det.pure _)
    | _ => exact Det.none
  | call c =>
    obtain ⟨callee, args, ats⟩ := c
    cases callee with
    | value f =>
      simp only [effK]
      cases evalO env f <;> first | exact Det.none | exact callOp_det hC
    | builtin b =>
      simp only [effK]
      split <;> first
        | exact Det.none
        | exact Det.bind (g := fun K : Int → Option R => lenOp rows _ _ K) lenOp_det fun n => Det.pure _
        | exact toV mmOp_det
        | skip
      refine Det.cnd ?_
      rename_i e _ _ _ _
      cases (X.ty e).sh with
      | none => exact Det.none
      | some s => exact appendOp_det
    | _ => exact Det.none
  | _ => exact Det.none
end
end Go.Proofs.Ytcipegkeoheikaa.Dx
/- An operation's outcome hangs on its footprint alone. -/
namespace Go.Proofs.Ytcipegkeoheikaa.Dx
open Go

theorem mem_add1 {acc : List Nat} {n k : Nat} : k ∈ add1 acc n ↔ k ∈ acc ∨ k = n := by
  unfold add1
  cases hm : mem n acc with
  | true =>
    simp only [cnd]
    exact ⟨.inl, fun h => h.elim id fun e => e ▸ (mem_iff _ _).1 hm⟩
  | false => simp [cnd, napp_eq]

theorem mem_adds : ∀ {l acc : List Nat} {k : Nat}, k ∈ adds acc l ↔ k ∈ acc ∨ k ∈ l
  | [], acc, k => by simp [adds]
  | n :: t, acc, k => by
    simp only [adds]
    rw [mem_adds, mem_add1, List.mem_cons, or_assoc]

theorem mem_cloIn {rows : List (Option Row)} : ∀ {l acc : List Nat} {k : Nat}, k ∈ clo.cloIn rows l acc ↔ k ∈ acc ∨ ∃ j, j ∈ l ∧ ∃ r, rget rows j = some r ∧ k ∈ r.b.refs
  | [], acc, k => by simp [clo.cloIn]
  | n :: t, acc, k => by
    simp only [clo.cloIn]
    rw [mem_cloIn]
    cases hr : rget rows n with
    | none =>
      simp only [List.mem_cons]
      constructor
      · rintro (h | ⟨j, h1, h2⟩)
        · exact .inl h
        · exact .inr ⟨j, .inr h1, h2⟩
      · rintro (h | ⟨j, rfl | h1, h2⟩)
        · exact .inl h
        · obtain ⟨r, h3, _⟩ := h2; rw [hr] at h3; cases h3
        · exact .inr ⟨j, h1, h2⟩
    | some r =>
      simp only [List.mem_cons, mem_adds]
      constructor
      · rintro ((h | h) | ⟨j, h1, h2⟩)
        · exact .inl h
        · exact .inr ⟨n, .inl rfl, r, hr, h⟩
        · exact .inr ⟨j, .inr h1, h2⟩
      · rintro (h | ⟨j, rfl | h1, h2⟩)
        · exact .inl (.inl h)
        · obtain ⟨r', h3, h4⟩ := h2
          rw [hr] at h3
          obtain rfl := Option.some.inj h3
          exact .inl (.inr h4)
        · exact .inr ⟨j, h1, h2⟩

theorem clo_sub {rows : List (Option Row)} : ∀ {n : Nat} {acc : List Nat} {k : Nat}, k ∈ acc → k ∈ clo rows n acc
  | 0, _, _, h => h
  | n + 1, acc, k, h => clo_sub (n := n) (mem_cloIn.2 (.inl h))

theorem clo_mono {rows : List (Option Row)} : ∀ {n : Nat} {a b : List Nat}, (∀ k, k ∈ a → k ∈ b) → ∀ k, k ∈ clo rows n a → k ∈ clo rows n b
  | 0, _, _, h => h
  | n + 1, a, b, h => by
    refine clo_mono (n := n) fun k hk => ?_
    rcases mem_cloIn.1 hk with hk | ⟨j, hj, h2⟩
    · exact mem_cloIn.2 (.inl (h k hk))
    · exact mem_cloIn.2 (.inr ⟨j, h j hj, h2⟩)

theorem clo_step {rows : List (Option Row)} : ∀ {n : Nat} {a : List Nat} {j k : Nat} {r : Row}, j ∈ clo rows n a → rget rows j = some r → k ∈ r.b.refs → k ∈ clo rows (n + 1) a
  | 0, a, j, k, r, hj, hr, hk => by
    show k ∈ clo.cloIn rows a a
    exact mem_cloIn.2 (.inr ⟨j, hj, r, hr, hk⟩)
  | n + 1, a, j, k, r, hj, hr, hk => by
    show k ∈ clo rows (n + 1) (clo.cloIn rows a a)
    exact clo_step (n := n) hj hr hk

theorem clo_more {rows : List (Option Row)} : ∀ {n : Nat} {a : List Nat} {k : Nat}, k ∈ clo rows n a → k ∈ clo rows (n + 1) a
  | 0, a, k, h => mem_cloIn.2 (.inl h)
  | n + 1, a, k, h => clo_more (n := n) (a := clo.cloIn rows a a) h

section
variable {rows rows' : List (Option Row)}

theorem cloIn_loc : ∀ {l acc : List Nat}, Same rows rows' l → clo.cloIn rows' l acc = clo.cloIn rows l acc
  | [], _, _ => rfl
  | n :: t, acc, h => by
    simp only [clo.cloIn]
    rw [h n (by simp), cloIn_loc (h.sub fun k hk => by simp [hk])]

theorem clo_loc : ∀ {n : Nat} {acc : List Nat}, Same rows rows' (clo rows n acc) → clo rows' n acc = clo rows n acc
  | 0, _, _ => rfl
  | n + 1, acc, h => by
    show clo rows' n (clo.cloIn rows' acc acc) = clo rows n (clo.cloIn rows acc acc)
    rw [cloIn_loc (h.sub fun k hk => clo_sub (n := n) (mem_cloIn.2 (.inl hk)))]
    exact clo_loc h

theorem allLive_loc : ∀ {l : List Nat}, Same rows rows' l → allLive rows' l = allLive rows l
  | [], _ => rfl
  | n :: t, h => by
    simp only [allLive]
    rw [h n (by simp), allLive_loc (l := t) (h.sub fun k hk => by simp [hk])]

theorem remap_loc {to : Nat → Option (Nat × Nat)} : ∀ {v : V}, Same rows rows' v.refs → v.remap rows' to = v.remap rows to
  | .undef, _ | .val _ _, _ | .nil, _ | .loc _ _ _, _ | .lnil, _ => rfl
  | .own k v, h => by simp only [V.remap]; rw [h k (by simp [V.refs])]
  | .sub k v lo n, h => by simp only [V.remap]; rw [h k (by simp [V.refs])]
  | .ptr k v i j, h => by simp only [V.remap]; rw [h k (by simp [V.refs])]
  | .fn f a b, h => by
    simp only [V.refs] at h
    simp only [V.remap]
    rw [remap_loc h.left, remap_loc h.right]
  | .agg l, h => by simp only [V.remap]; rw [remap_loc (v := l) h]
  | .tup l, h => by simp only [V.remap]; rw [remap_loc (v := l) h]
  | .lcons a t, h => by
    simp only [V.refs] at h
    simp only [V.remap]
    rw [remap_loc h.left, remap_loc h.right]

theorem remapL_loc {to : Nat → Option (Nat × Nat)} : ∀ {l : List V}, Same rows rows' (refsL l) → remapL rows' to l = remapL rows to l
  | [], _ => rfl
  | v :: t, h => by
    simp only [refsL] at h
    simp only [remapL]
    rw [remap_loc h.left, remapL_loc h.right]

theorem rowsAt_loc {to : Nat → Option (Nat × Nat)} : ∀ {ids : List Nat}, Same rows rows' ids → (∀ k r, k ∈ ids → rget rows k = some r → Same rows rows' r.b.refs) → rowsAt rows' to ids = rowsAt rows to ids
  | [], _, _ => rfl
  | k :: t, h, h2 => by
    simp only [rowsAt]
    rw [h k (by simp), rowsAt_loc (ids := t) (h.sub fun k hk => by simp [hk]) (fun k r hk hr => h2 k r (by simp [hk]) hr)]
    cases hr : rget rows k with
    | none => rfl
    | some r =>
      have := h2 k r (by simp) hr
      simp only
      congr 3
      cases hb : r.b with
      | box cs =>
        rw [hb] at this
        simp only [Body.remap]
        rw [remapL_loc this]
      | _ => rfl

theorem handVals_loc {R : Type} {to : Nat → Option (Nat × Nat)} : ∀ {ps : List PM} {vs : List V} {K : List V → Option R}, Same rows rows' (refsL vs) → handVals rows' to ps vs K = handVals rows to ps vs K
  | [], [], _, _ => rfl
  | .val s :: ps, v :: vs, K, h => by
    simp only [refsL] at h
    simp only [handVals]
    rw [view_loc h.left]
    congr 1
    funext x
    exact handVals_loc h.right
  | .ref _ :: ps, v :: vs, K, h => by
    simp only [refsL] at h
    simp only [handVals]
    rw [remap_loc h.left]
    exact handVals_loc h.right
  | [], _ :: _, _, _ => rfl
  | .val _ :: _, [], _, _ => rfl
  | .ref _ :: _, [], _, _ => rfl

theorem refArgs_sub : ∀ {ps : List PM} {vs : List V} {k : Nat}, k ∈ refArgs ps vs → k ∈ refsL vs
  | [], vs, k, h => by cases vs <;> simp [refArgs] at h
  | .val s :: ps, v :: vs, k, h => by
    simp only [refsL, napp_eq, List.mem_append]
    exact .inr (refArgs_sub (ps := ps) (by simpa only [refArgs] using h))
  | .ref _ :: ps, v :: vs, k, h => by
    simp only [refArgs, napp_eq, List.mem_append] at h
    simp only [refsL, napp_eq, List.mem_append]
    exact h.imp id refArgs_sub
  | .val _ :: _, [], k, h => by simp [refArgs] at h
  | .ref _ :: _, [], k, h => by simp [refArgs] at h

theorem valRefs_sub : ∀ {ps : List PM} {vs : List V} {k : Nat}, k ∈ valRefs ps vs → k ∈ refsL vs
  | [], vs, k, h => by cases vs <;> simp [valRefs] at h
  | .ref s :: ps, v :: vs, k, h => by
    simp only [refsL, napp_eq, List.mem_append]
    exact .inr (valRefs_sub (ps := ps) (by simpa only [valRefs] using h))
  | .val _ :: ps, v :: vs, k, h => by
    simp only [valRefs, napp_eq, List.mem_append] at h
    simp only [refsL, napp_eq, List.mem_append]
    exact h.imp id valRefs_sub
  | .val _ :: _, [], k, h => by simp [valRefs] at h
  | .ref _ :: _, [], k, h => by simp [valRefs] at h

theorem backTo_loc {fixed ids : List Nat} {nid j : Nat} (h : Same rows rows' ids) : backTo rows' fixed ids nid j = backTo rows fixed ids nid j := by
  unfold backTo
  rw [nget_eq]
  cases hi : ids[j]? with
  | none => rfl
  | some k => simp only; rw [h k (List.mem_of_getElem? hi)]

theorem backTo_key {fixed ids : List Nat} {nid j k v : Nat} (h : backTo rows fixed ids nid j = some (k, v)) : k ∈ ids ∨ k = nid + (j - ids.length) := by
  unfold backTo at h
  rw [nget_eq] at h
  cases hi : ids[j]? with
  | none =>
    rw [hi] at h
    simp only [Option.some.injEq, Prod.mk.injEq, nlen_eq] at h
    exact .inr h.1.symm
  | some k' =>
    rw [hi] at h
    left
    simp only at h
    have := List.mem_of_getElem? hi
    split at h
    · split at h
      · cases hc : (_ && _ : Bool) <;> (rw [hc] at h; simp only [cnd, Option.some.injEq, Prod.mk.injEq] at h; rw [← h.1]; exact this)
      · simp only [Option.some.injEq, Prod.mk.injEq] at h; rw [← h.1]; exact this
    · simp at h

theorem backRows_loc {out : List (Option Row)} {fixed ids : List Nat} {nid : Nat} (h : Same rows rows' ids) : ∀ {l : List (Option Row)} {j : Nat}, (∀ i, i < 3 → rget rows' (nid + i) = rget rows (nid + i)) → j + rlen l ≤ ids.length + 3 →
    backRows rows' out (backTo rows fixed ids nid) l j = backRows rows out (backTo rows fixed ids nid) l j
  | [], _, _, _ => rfl
  | none :: _, _, _, _ => rfl
  | some r :: t, j, hf, hl => by
    simp only [rlen] at hl
    simp only [backRows]
    rw [backRows_loc h (l := t) (j := j + 1) hf (by omega)]
    cases hb : backTo rows fixed ids nid j with
    | none => rfl
    | some kv =>
      obtain ⟨k, v⟩ := kv
      cases backRows rows out (backTo rows fixed ids nid) t (j + 1) with
      | none => rfl
      | some l =>
        simp only
        rcases backTo_key hb with hk | rfl
        · rw [h k hk]
        · rw [hf _ (by omega)]
end
end Go.Proofs.Ytcipegkeoheikaa.Dx
/- An operation's outcome hangs on its footprint alone: calls, all operations. -/
namespace Go.Proofs.Ytcipegkeoheikaa.Dx
open Go

section
variable {R : Type} {X : Ctx R} {rows rows' : List (Option Row)}

theorem natK_congr {n : Nat} {K K' : Nat → Option R} (h : K n = K' n) : natK n K = natK n K' := by
  unfold natK
  split <;> first | exact h | rfl

theorem natsK_congr : ∀ {l : List Nat} {K K' : List Nat → Option R}, K l = K' l → natsK l K = natsK l K'
  | [], _, _, h => h
  | n :: t, K, K', h => natK_congr (natsK_congr (l := t) h)

theorem callOp_loc {nid : Nat} {f : FuncId} {args : List V} {K : V → List (Nat × Row) → Option R} (h : Same rows rows' (clo rows 5 (adds [] (refsL args)))) (hf : ∀ i, i < 3 → rget rows' (nid + i) = rget rows (nid + i)) :
    callOp X rows' nid f args K = callOp X rows nid f args K := by
  unfold callOp
  cases X.sig f with
  | none => rfl
  | some sg =>
    simp only
    have hargs : Same rows rows' (refsL args) := h.sub fun k hk => clo_sub (mem_adds.2 (.inr hk))
    have hids4 : ∀ k, k ∈ clo rows 4 (adds [] (refArgs sg.pars args)) → k ∈ clo rows 4 (adds [] (refsL args)) :=
      clo_mono fun k hk => by
        rcases mem_adds.1 hk with hk | hk
        · simp at hk
        · exact mem_adds.2 (.inr (refArgs_sub hk))
    have hids : Same rows rows' (clo rows 4 (adds [] (refArgs sg.pars args))) := h.sub fun k hk => clo_more (hids4 k hk)
    have hdeep : ∀ k r, k ∈ clo rows 4 (adds [] (refArgs sg.pars args)) → rget rows k = some r → Same rows rows' r.b.refs := fun k r hk hr => h.sub fun j hj => clo_step (hids4 k hk) hr hj
    rw [clo_loc hids]
    generalize clo rows 4 (adds [] (refArgs sg.pars args)) = ids at hids hdeep
    refine natsK_congr ?_
    refine natsK_congr ?_
    generalize fixedArgs sg.pars args = fixed
    rw [allLive_loc hids, rowsAt_loc hids hdeep]
    congr 1
    rw [handVals_loc hargs]
    congr 1
    funext vs
    congr 1
    funext vs
    congr 1
    funext rin
    congr 1
    funext res out
    have hb : backTo rows' fixed ids nid = backTo rows fixed ids nid := funext fun j => backTo_loc hids
    rw [hb, freeze_loc (hargs.sub fun k hk => valRefs_sub hk)]
    cases hle : Nat.ble (rlen out) (nlen ids + 3) with
    | true =>
      have hle' : rlen out ≤ ids.length + 3 := by
        have := Nat.le_of_ble_eq_true hle
        rwa [nlen_eq] at this
      rw [backRows_loc hids hf (by omega)]
    | false =>
      have : ∀ {o : Option (List (Nat × Row))} {g : List (Nat × Row) → Option R}, (match o with | some ups => cnd false (g ups) none | none => none) = none := by
        intro o g
        cases o <;> rfl
      exact this.trans this.symm

variable {env env' : List (Nat × V)}

theorem evalL_loc : ∀ {l : List Operand}, (∀ x, x ∈ l → evalO env' x = evalO env x) → evalL env' l = evalL env l
  | [], _ => rfl
  | x :: t, h => by
    simp only [evalL]
    rw [h x (by simp), evalL_loc (l := t) fun x hx => h x (by simp [hx])]

theorem evalParts_loc : ∀ {l : List (Nat × Operand)}, (∀ x, x ∈ l.map (·.2) → evalO env' x = evalO env x) → evalParts env' l = evalParts env l
  | [], _ => rfl
  | (i, x) :: t, h => by
    simp only [evalParts]
    rw [h x (by simp), evalParts_loc (l := t) fun x hx => h x (by simp only [List.map_cons, List.mem_cons]; exact .inr hx)]

theorem refsP_parts : ∀ {l : List (Nat × Operand)}, refsP (evalParts env l) = refsL (evalL env (l.map (·.2)))
  | [] => rfl
  | (i, x) :: t => by simp only [evalParts, refsP, List.map_cons, evalL, refsL]; rw [refsP_parts (l := t)]

theorem refsL_vapp : ∀ {a b : List V} {k : Nat}, k ∈ refsL (vapp a b) ↔ k ∈ refsL a ∨ k ∈ refsL b
  | [], b, k => by simp [vapp, refsL]
  | v :: t, b, k => by
    simp only [vapp, refsL, napp_eq, List.mem_append]
    rw [refsL_vapp (a := t), or_assoc]

theorem refsL_toL : ∀ {l : V} {k : Nat}, k ∈ refsL l.toL → k ∈ l.refs
  | .lcons h t, k, hk => by
    simp only [V.toL, refsL, napp_eq, List.mem_append] at hk
    simp only [V.refs, napp_eq, List.mem_append]
    exact hk.imp id refsL_toL
  | .undef, _, h | .val _ _, _, h | .nil, _, h | .own _ _, _, h | .sub _ _ _ _, _, h | .ptr _ _ _ _, _, h | .loc _ _ _, _, h | .fn _ _ _, _, h | .agg _, _, h | .tup _, _, h | .lnil, _, h => by simp [V.toL, refsL] at h

theorem mem_refsL {l : List V} {k : Nat} : k ∈ refsL l ↔ ∃ v, v ∈ l ∧ k ∈ v.refs := by
  induction l with
  | nil => simp [refsL]
  | cons v t ih => simp only [refsL, napp_eq, List.mem_append, ih, List.mem_cons]; constructor
                   · rintro (h | ⟨w, h1, h2⟩)
                     · exact ⟨v, .inl rfl, h⟩
                     · exact ⟨w, .inr h1, h2⟩
                   · rintro ⟨w, rfl | h1, h2⟩
                     · exact .inl h2
                     · exact .inr ⟨w, h1, h2⟩

theorem cells_sub {x : V} : ∀ k, k ∈ refsL x.cells → k ∈ x.refs := fun k hk => by
  obtain ⟨v, h1, h2⟩ := mem_refsL.1 hk
  exact refs_cells x v h1 k h2

theorem effK_loc {nid : Nat} {o : Oper} {K : V → List (Nat × Row) → Option R} (hE : ∀ x, x ∈ opnds o.op → evalO env' x = evalO env x) (hR : idle o = true ∨ Same rows rows' (foot env rows o))
    (hf : ∀ i, i < slotsOf o → rget rows' (nid + i) = rget rows (nid + i)) : effK X env' rows' nid o K = effK X env rows nid o K := by
  obtain ⟨dst, op, ty, pos, after, guard⟩ := o
  have one : ∀ {x : Operand}, Same rows rows' (refsL (evalL env (opnds op))) → x ∈ opnds op → Same rows rows' (evalO env x).refs := fun {x} h hx =>
    h.sub fun k hk => mem_refsL.2 ⟨evalO env x, by
      clear h hk hE hR
      generalize opnds op = l at hx
      induction l with
      | nil => simp at hx
      | cons y t ih =>
        simp only [evalL]
        rcases List.mem_cons.1 hx with rfl | hx
        · simp
        · exact List.mem_cons_of_mem _ (ih hx), hk⟩
  cases op with
  | move x => simp only [effK]; rw [hE x (by simp [opnds])]
  | assign x => simp only [effK]; rw [hE x (by simp [opnds])]
  | pick c a b => simp only [effK]; rw [hE c (by simp [opnds]), hE a (by simp [opnds]), hE b (by simp [opnds])]
  | alloc e => rfl
  | box e x => simp only [effK]; rw [hE x (by simp [opnds])]
  | build t parts => simp only [effK]; rw [evalParts_loc hE]
  | buildSlice t len parts =>
    have hR := hR.resolve_left (by simp [idle])
    simp only [effK]
    rw [evalParts_loc hE, freeze_loc (ks := refsP (evalParts env parts.toList)) (by rw [refsP_parts]; exact hR)]
    have hp : Same rows rows' (refsP (evalParts env parts.toList)) := by rw [refsP_parts]; exact hR
    simp only [fillElems_loc hp]
  | load t a =>
    have hR := hR.resolve_left (by simp [idle])
    simp only [effK]
    rw [hE a (by simp [opnds]), loadOp_loc (one hR (by simp [opnds]))]
  | store t a x =>
    have hR := hR.resolve_left (by simp [idle])
    simp only [effK]
    have hx := one (x := x) hR (by simp [opnds])
    rw [hE a (by simp [opnds]), hE x (by simp [opnds]), storeOp_loc (one hR (by simp [opnds])) hx (hx.sub cells_sub)]
  | nilCheck x => simp only [effK]; rw [hE x (by simp [opnds])]
  | binOp op t x y yt => simp only [effK]; rw [hE x (by simp [opnds]), hE y (by simp [opnds])]
  | unOp op t x => simp only [effK]; rw [hE x (by simp [opnds])]
  | convert s t x => simp only [effK]; rw [hE x (by simp [opnds])]
  | makeFunc fn first caps =>
    simp only [effK]
    cases fn with
    | func f =>
      simp only
      rw [evalL_loc (l := first.toList) fun x hx => hE x (by simp only [opnds, List.mem_append]; exact .inl hx), evalL_loc (l := caps.toList) fun x hx => hE x (by simp only [opnds, List.mem_append]; exact .inr hx)]
    | _ => rfl
  | makeSlice t l c => simp only [effK]; rw [hE l (by simp [opnds]), hE c (by simp [opnds])]
  | slice t x lo hi mx =>
    have hR := hR.resolve_left (by simp [idle])
    cases mx with
    | none =>
      simp only [effK]
      have hlo : evalOpt env' lo = evalOpt env lo := by
        cases lo with
        | none => rfl
        | some l => simp only [evalOpt]; rw [hE l (by simp [opnds])]
      have hhi : evalOpt env' hi = evalOpt env hi := by
        cases hi with
        | none => rfl
        | some l => simp only [evalOpt]; rw [hE l (by simp [opnds])]
      rw [hE x (by simp [opnds]), hlo, hhi, sliceOp_loc (one hR (by simp [opnds]))]
    | some m => rfl
  | fieldAddr t x f =>
    have hR := hR.resolve_left (by simp [idle])
    simp only [effK]
    have hx := one (x := x) hR (by simp [opnds])
    rw [hE x (by simp [opnds])]
    cases (X.ty t).ty with
    | struct fs =>
      simp only
      cases fget fs f with
      | none => rfl
      | some fl =>
        cases hv : evalO env x with
        | ptr k v i j =>
          rw [hv] at hx
          simp only
          rw [ptrOk_loc (hx k (by simp [V.refs]))]
        | _ => rfl
    | _ => rfl
  | field t x f => simp only [effK]; rw [hE x (by simp [opnds])]
  | indexAddr t x i =>
    have hR := hR.resolve_left (by simp [idle])
    simp only [effK]
    rw [hE x (by simp [opnds]), hE i (by simp [opnds]), indexAddrOp_loc (one hR (by simp [opnds]))]
  | index t x i => simp only [effK]; rw [hE x (by simp [opnds]), hE i (by simp [opnds])]
  | extract x i => simp only [effK]; rw [hE x (by simp [opnds])]
  | call c =>
    have hR := hR.resolve_left (by simp [idle])
    obtain ⟨callee, args, ats⟩ := c
    cases callee with
    | value f =>
      simp only [effK]
      have ha : evalL env' args.toList = evalL env args.toList := evalL_loc fun x hx => hE x (by simp only [opnds, List.mem_cons]; exact .inr hx)
      rw [hE f (by simp [opnds]), ha]
      cases hv : evalO env f with
      | fn g first caps =>
        refine callOp_loc (hR.sub ?_) (fun i hi => hf i (by simp only [slotsOf]; exact hi))
        refine clo_mono fun k hk => ?_
        rcases mem_adds.1 hk with hk | hk
        · simp at hk
        refine mem_adds.2 (.inr ?_)
        simp only [opnds, evalL, refsL, hv, V.refs, napp_eq, List.mem_append]
        rcases refsL_vapp.1 hk with hk | hk
        · exact .inl (.inl (refsL_toL hk))
        · rcases refsL_vapp.1 hk with hk | hk
          · exact .inr hk
          · exact .inl (.inr (refsL_toL hk))
      | _ => rfl
    | builtin b =>
      simp only [effK]
      have ha : evalL env' args.toList = evalL env args.toList := evalL_loc fun x hx => hE x (by simpa only [opnds] using hx)
      rw [ha]
      have hR' : Same rows rows' (refsL (evalL env args.toList)) := hR
      generalize evalL env args.toList = vs at hR'
      split
      · rename_i x ty _
        simp only [refsL] at hR'
        rw [lenOp_loc hR'.left]
      · rfl
      · rfl
      · rename_i x y e _ _ _ _
        simp only [refsL] at hR'
        simp only [appendOp_loc hR'.left hR'.right.left]
      · rfl
    | _ => rfl
  | _ => rfl
end
end Go.Proofs.Ytcipegkeoheikaa.Dx
/- An operation's outcome, told once for all states that agree where it looks. -/
namespace Go.Proofs.Ytcipegkeoheikaa.Dx
open Go

/-- What is known of the functions that are called. -/
structure Snd {R : Type} (P : Program) (X : Ctx R) : Prop where
  ctx : CtxOk P X
  fn : ∀ f, X.fnOk f = true → ∀ args w, (callFunc f args).run P w = .ok (.enter f args) w
  C : ∀ f vs rin K (r : R), X.fnOk f = true → X.C f vs rin K = some r → ∃ res out, K res out = some r ∧ Spec P f vs rin res out

/-- The same knowledge, of one call only. -/
noncomputable def Ctx.only {R : Type} (X : Ctx R) (f : FuncId) (vs : List V) (rin : List (Option Row)) (res : List V) (out : List (Option Row)) : Ctx R :=
  { X with C := fun f' vs' rin' K => open Classical in if f' = f ∧ vs' = vs ∧ rin' = rin then K res out else none }

theorem Ctx.only_snd {R : Type} {P : Program} {X : Ctx R} (hX : Snd P X) {f : FuncId} {vs : List V} {rin : List (Option Row)} {res : List V} {out : List (Option Row)} (h : Spec P f vs rin res out) : Snd P (X.only f vs rin res out) where
  ctx := ⟨hX.ctx.tab, hX.ctx.eq⟩
  fn := hX.fn
  C f' vs' rin' K r _ hk := by
    simp only [Ctx.only] at hk
    split at hk
    · rename_i e
      obtain ⟨rfl, rfl, rfl⟩ := e
      exact ⟨res, out, hk, h⟩
    · cases hk

def DetC {R : Type} (X : Ctx R) : Prop := ∀ f vs rin, Det (fun K : List V × List (Option Row) → Option R => X.C f vs rin fun a b => K (a, b))

theorem Ctx.only_det {R : Type} {X : Ctx R} {f : FuncId} {vs : List V} {rin : List (Option Row)} {res : List V} {out : List (Option Row)} : DetC (X.only f vs rin res out) := by
  intro f' vs' rin'
  by_cases e : f' = f ∧ vs' = vs ∧ rin' = rin
  · exact .inr ⟨(res, out), fun K => by simp only [Ctx.only]; rw [if_pos e]⟩
  · exact .inl fun K => by simp only [Ctx.only]; rw [if_neg e]

/-- Outcome of an operation in a state. -/
def Tells (R : Type) (P : Program) (ty : TypeId → TyD) (o : Oper) (nid : Nat) (env : List (Nat × V)) (rows : List (Option Row)) (v : V) (ups : List (Nat × Row)) : Prop :=
  ∃ X : Ctx R, X.ty = ty ∧ Snd P X ∧ ∀ K, effK X env rows nid o K = K v ups

theorem effK_plain {R : Type} {X : Ctx R} {C} {env : List (Nat × V)} {rows : List (Option Row)} {nid : Nat} {o : Oper} {K : V → List (Nat × Row) → Option R} (h : isCall o = false) :
    effK { X with C := C } env rows nid o K = effK X env rows nid o K := by
  obtain ⟨dst, op, ty, pos, after, guard⟩ := o
  cases op with
  | call c =>
    obtain ⟨callee, args, ats⟩ := c
    cases callee with
    | value f => simp [isCall] at h
    | builtin b => rfl
    | _ => rfl
  | makeFunc fn first caps => cases fn <;> rfl
  | slice t x lo hi mx => cases mx <;> rfl
  | _ => rfl

theorem callOp_only {R : Type} {P : Program} {X : Ctx R} (hX : Snd P X) {rows : List (Option Row)} {nid : Nat} {f : FuncId} {args : List V} {K : V → List (Nat × Row) → Option R} {r : R}
    (h : callOp X rows nid f args K = some r) : ∃ X' : Ctx R, X'.ty = X.ty ∧ Snd P X' ∧ DetC X' ∧ callOp X' rows nid f args K = some r := by
  unfold callOp at h
  cases hsg : X.sig f with
  | none => rw [hsg] at h; simp at h
  | some sg =>
    rw [hsg] at h
    simp only at h
    obtain ⟨y1, g1, d1⟩ := (natsK_det _).one h
    obtain ⟨y2, g2, d2⟩ := (natsK_det _).one g1
    obtain ⟨hc, h1⟩ := cnd_some g2
    obtain ⟨x1, h2, e1⟩ := handVals_det.one h1
    obtain ⟨x2, h3, e2⟩ := (forceL_det _).one h2
    obtain ⟨x3, h4, e3⟩ := (forceR_det _).one h3
    have hc' := hc
    simp only [Bool.and_eq_true] at hc'
    obtain ⟨res, out, h5, hspec⟩ := hX.C _ _ _ _ _ hc'.1.1.1 h4
    refine ⟨X.only f x2 x3 res out, rfl, Ctx.only_snd hX hspec, Ctx.only_det, ?_⟩
    unfold callOp
    have hsg' : (X.only f x2 x3 res out).sig f = some sg := hsg
    have hfn' : (X.only f x2 x3 res out).fnOk = X.fnOk := rfl
    rw [hsg', hfn']
    simp only
    rw [d1, d2, hc]
    simp only [cnd]
    rw [e1, e2, e3]
    simp only [Ctx.only, and_self, if_true]
    exact h5

theorem eff_tells {R : Type} {P : Program} {X : Ctx R} (hX : Snd P X) {env : List (Nat × V)} {rows : List (Option Row)} {nid : Nat} {o : Oper} {K : V → List (Nat × Row) → Option R} {r : R} (h : effK X env rows nid o K = some r) :
    ∃ v ups, K v ups = some r ∧ Tells R P X.ty o nid env rows v ups := by
  have fin : ∀ X' : Ctx R, X'.ty = X.ty → Snd P X' → DetC X' → effK X' env rows nid o K = some r → ∃ v ups, K v ups = some r ∧ Tells R P X.ty o nid env rows v ups := by
    intro X' ht hs hd hk
    obtain ⟨⟨v, ups⟩, h1, h2⟩ := (effK_det hd (env := env) (rows := rows) (nid := nid) (o := o)).one (K := fun p => K p.1 p.2) hk
    exact ⟨v, ups, h1, X', ht, hs, fun K' => h2 fun p => K' p.1 p.2⟩
  cases hc : isCall o with
  | false =>
    refine fin { X with C := fun _ _ _ _ => none } rfl ⟨⟨hX.ctx.tab, hX.ctx.eq⟩, hX.fn, fun f vs rin K r _ hk => by cases hk⟩ (fun _ _ _ => Det.none) ?_
    rw [effK_plain hc]
    exact h
  | true =>
    obtain ⟨dst, op, ty, pos, after, guard⟩ := o
    cases op with
    | call c =>
      obtain ⟨callee, args, ats⟩ := c
      cases callee with
      | value f =>
        simp only [effK] at h
        cases hv : evalO env f with
        | fn g first caps =>
          rw [hv] at h
          obtain ⟨X', a1, a2, a3, a4⟩ := callOp_only hX h
          refine fin X' a1 a2 a3 ?_
          simp only [effK, hv]
          exact a4
        | _ => rw [hv] at h; simp at h
      | _ => simp [isCall] at hc
    | _ => simp [isCall] at hc

/-- The outcome is the same wherever the state agrees where the operation looks. -/
theorem Tells.move {R : Type} {P : Program} {ty : TypeId → TyD} {o : Oper} {nid : Nat} {env env' : List (Nat × V)} {rows rows' : List (Option Row)} {v : V} {ups : List (Nat × Row)} (h : Tells R P ty o nid env rows v ups)
    (hE : ∀ x, x ∈ opnds o.op → evalO env' x = evalO env x) (hR : idle o = true ∨ Same rows rows' (foot env rows o)) (hf : ∀ i, i < slotsOf o → rget rows' (nid + i) = rget rows (nid + i)) : Tells R P ty o nid env' rows' v ups := by
  obtain ⟨X, h1, h2, h3⟩ := h
  exact ⟨X, h1, h2, fun K => (effK_loc hE hR hf).trans (h3 K)⟩

end Go.Proofs.Ytcipegkeoheikaa.Dx
/- An operation whose outcome is told: what it does in the model. -/
namespace Go.Proofs.Ytcipegkeoheikaa.Dx
open Go

theorem VS_toL {M : Mem} : ∀ {l : V} {us : List Value}, VL M l us → VS M l.toL us
  | .lnil, us, h => by
    simp only [VL, VRL] at h
    subst h; exact .nil
  | .lcons a t, us, h => by
    simp only [VL, VRL] at h
    obtain ⟨u, us', h1, h2, rfl⟩ := h
    exact .cons h1 (VS_toL h2)
  | .undef, _, h | .val _ _, _, h | .nil, _, h | .own _ _, _, h | .sub _ _ _ _, _, h | .ptr _ _ _ _, _, h | .loc _ _ _, _, h | .fn _ _ _, _, h | .agg _, _, h | .tup _, _, h => by simp [VL, VRL] at h

theorem VS_vapp {M : Mem} {a b : List V} {us vs : List Value} (h : VS M a us) (k : VS M b vs) : VS M (vapp a b) (us ++ vs) := by
  induction h with
  | nil => exact k
  | cons h1 _ ih => exact .cons h1 ih

theorem call_run {P : Program} {w : World} {a : Act} {o : Oper} {c : Call} {f : Operand} {g : FuncId} {va vb : List Value} (ho : o.op = .call c) (hc : c.callee = .value f) (hf : a.eval f = .func (.func g) va.toArray vb.toArray)
    (hfn : ∀ args w, (callFunc g args).run P w = .ok (.enter g args) w) : (execOp a.eval o).run P w = .ok (.enter g (va ++ (c.args.toList.map a.eval ++ vb)).toArray) w := by
  have e : execOp a.eval o = callFunc g (va.toArray ++ c.args.map a.eval ++ vb.toArray) := by
    unfold execOp
    rw [ho]
    simp only
    unfold resolve
    rw [hc]
    simp only
    rw [hf]
    rfl
  rw [e, hfn]
  congr 2
  apply Array.ext'
  simp

theorem Tells.wp {R : Type} (r0 : R) {P : Program} {ty : TypeId → TyD} {o : Oper} {nid : Nat} {env : List (Nat × V)} {w0 : World} {M : Mem} {v : V} {ups : List (Nat × Row)} (h : Tells R P ty o nid env M.rows v ups)
    (hM : MemOk w0 M) {a : Act} (he : EnvR M env a.tmps) (hn : ∀ i, nid ≤ i → i < nid + slotsOf o → rget M.rows i = none) (hl : nid + slotsOf o ≤ rlen M.rows)
    {next : Act → World → Prop} {Q : Exit → Act → World → Prop}
    (hk : ∀ u w' α', MemOk w0 (M.to w' (rsets M.rows ups) α') → Goes M (M.to w' (rsets M.rows ups) α') → VR (M.to w' (rsets M.rows ups) α') v u → next (a.put o.dst u) w') : o.wp P a M.w next Q := by
  obtain ⟨X, hty, hX, ht⟩ := h
  let K : V → List (Nat × Row) → Option R := fun v' u' => open Classical in if v' = v ∧ u' = ups then some r0 else none
  have hK : effK X env M.rows nid o K = some r0 := by
    rw [ht]
    simp only [K, and_self, if_true]
  have same : ∀ {v' u'}, K v' u' = some r0 → v' = v ∧ u' = ups := by
    intro v' u' hh
    simp only [K] at hh
    split at hh
    · assumption
    · cases hh
  cases hc : isCall o with
  | false =>
    obtain ⟨v', u', h1, h2⟩ := eff_sound hX.ctx hM he hn hl hc hK
    obtain ⟨rfl, rfl⟩ := same h1
    obtain ⟨u, w', α', hrun, b1, b2, b3⟩ := h2
    unfold Oper.wp
    rcases hrun with hrun | ⟨hrun, rfl⟩
    · rw [hrun]; exact hk _ _ _ b1 b2 b3
    · rw [hrun]; exact hk _ _ _ b1 b2 b3
  | true =>
    unfold isCall at hc
    split at hc
    · rename_i c hop
      split at hc
      · rename_i f hcal
        have hsl : slotsOf o = 3 := by simp [slotsOf, hop, hcal]
        rw [hsl] at hn hl
        unfold effK at hK
        rw [hop] at hK
        simp only [hcal] at hK
        cases hv : evalO env f with
        | fn g first caps =>
          rw [hv] at hK
          simp only at hK
          have hf := VR.evalO he f
          rw [hv] at hf
          obtain ⟨va, vb, c1, c2, c3⟩ := hf
          have hvs : VS M (vapp first.toL (vapp (evalL env c.args.toList) caps.toL)) (va ++ (c.args.toList.map a.eval ++ vb)) := VS_vapp (VS_toL c1) (VS_vapp (VS.eval he _) (VS_toL c2))
          obtain ⟨v', u', d1, d2, d3⟩ := callOp_sound hX.C hM hn hl hvs hK
          obtain ⟨rfl, rfl⟩ := same d1
          unfold Oper.wp
          rw [call_run hop hcal c3 (hX.fn g d2)]
          refine Calls.mono d3 ?_
          rintro e w' ⟨u, α', rfl, b1, b2, b3⟩
          exact hk _ _ _ b1 b2 b3
        | _ => rw [hv] at hK; simp at hK
      · cases hc
    · cases hc

end Go.Proofs.Ytcipegkeoheikaa.Dx
/- Operations of a region that change places. -/
namespace Go.Proofs.Ytcipegkeoheikaa.Dx
open Go

/-- An operation of a region and what came of it: nothing (it was not wanted), or a value, rows, and what it looked at. -/
structure Lab where
  i : Nat
  o : Oper
  nid : Nat
  act : Option (V × List (Nat × Row) × List Nat)

def Lab.v (l : Lab) : V := match l.act with | some x => x.1 | none => .tup .lnil
def Lab.ups (l : Lab) : List (Nat × Row) := match l.act with | some x => x.2.1 | none => []
def Lab.F (l : Lab) : List Nat := match l.act with | some x => x.2.2 | none => []

def guardOf (all : List Oper) (o : Oper) (env : List (Nat × V)) : Option Bool :=
  match o.guard with
  | none => some true
  | some (g, want) => match dstOf all g with
    | some d => match eget env d with
      | .val .bool b => some (b == want)
      | .tup .lnil => some false
      | _ => none
    | none => none

/-- In this state the operation does what the label says. -/
structure OkL (R : Type) (P : Program) (ty : TypeId → TyD) (all : List Oper) (l : Lab) (env : List (Nat × V)) (rows : List (Option Row)) : Prop where
  guard : guardOf all l.o env = some l.act.isSome
  tells : l.act.isSome = true → Tells R P ty l.o l.nid env rows l.v l.ups
  foot : idle l.o = true ∨ l.act = none ∨ l.F = Dx.foot env rows l.o
  keys : ∀ k, k ∈ keys l.ups → k < rlen rows ∧ (rget rows k ≠ none ∨ (l.nid ≤ k ∧ k < l.nid + slotsOf l.o))
  fresh : ∀ i, i < slotsOf l.o → rget rows (l.nid + i) = none
  room : l.nid + slotsOf l.o ≤ rlen rows

def opTmps (l : List Operand) : List Nat := l.filterMap fun | .tmp t => some t | _ => none
def lookT (all : List Oper) (o : Oper) : List Nat := opTmps (opnds o.op) ++ (match o.guard with | some (g, _) => (dstOf all g).toList | none => [])

structure Indep (all : List Oper) (x y : Lab) : Prop where
  xy : ∀ d, x.o.dst = some d → d ∉ lookT all y.o ∧ y.o.dst ≠ some d
  yx : ∀ d, y.o.dst = some d → d ∉ lookT all x.o
  fx : idle x.o = true ∨ ∀ k, k ∈ keys y.ups → k ∉ x.F
  fy : idle y.o = true ∨ ∀ k, k ∈ keys x.ups → k ∉ y.F
  w : ∀ k, k ∈ keys x.ups → k ∉ keys y.ups
  rng : x.nid + slotsOf x.o ≤ y.nid ∨ y.nid + slotsOf y.o ≤ x.nid

theorem eget_put {env : List (Nat × V)} {dst : Option Tmp} {v : V} {t : Nat} : eget (putE env dst v) t = if dst = some t then v else eget env t := by
  cases dst with
  | none => simp [putE]
  | some d =>
    simp only [putE, eget]
    by_cases e : d = t
    · subst e; simp [Nat.beq_refl, cnd]
    · have : Nat.beq d t = false := by
        cases hb : Nat.beq d t with
        | false => rfl
        | true => exact absurd (Nat.eq_of_beq_eq_true hb) e
      rw [this]
      simp [cnd, e]

theorem evalO_put {env : List (Nat × V)} {dst : Option Tmp} {v : V} {l : List Operand} (h : ∀ d, dst = some d → d ∉ opTmps l) : ∀ x, x ∈ l → evalO (putE env dst v) x = evalO env x := by
  intro x hx
  cases x with
  | tmp t =>
    simp only [evalO]
    rw [eget_put, if_neg]
    intro e
    exact h t e (List.mem_filterMap.2 ⟨.tmp t, hx, rfl⟩)
  | _ => rfl

theorem guard_put {all : List Oper} {o : Oper} {env : List (Nat × V)} {dst : Option Tmp} {v : V} (h : ∀ d, dst = some d → d ∉ lookT all o) : guardOf all o (putE env dst v) = guardOf all o env := by
  unfold guardOf
  cases hg : o.guard with
  | none => rfl
  | some gw =>
    obtain ⟨g, want⟩ := gw
    simp only
    cases hd : dstOf all g with
    | none => rfl
    | some d =>
      simp only
      rw [eget_put, if_neg]
      intro e
      exact h d e (by unfold lookT; rw [hg]; simp [hd])

theorem rows_ext : ∀ {a b : List (Option Row)}, rlen a = rlen b → (∀ k, rget a k = rget b k) → a = b
  | [], [], _, _ => rfl
  | [], _ :: _, h, _ => by simp [rlen] at h
  | _ :: _, [], h, _ => by simp [rlen] at h
  | x :: a, y :: b, h, hk => by
    have h0 := hk 0
    simp only [rget] at h0
    rw [h0, rows_ext (a := a) (b := b) (by simpa [rlen] using h) fun k => hk (k + 1)]

theorem rget_rsets_has {k : Nat} : ∀ {ups : List (Nat × Row)} {rows : List (Option Row)}, k ∈ keys ups → k < rlen rows → rget (rsets rows ups) k ≠ none
  | [], _, h, _ => by simp [keys] at h
  | (n, r) :: t, rows, h, hl => by
    simp only [rsets]
    by_cases ht : k ∈ keys t
    · exact rget_rsets_has ht (by rw [rlen_rset]; exact hl)
    · rw [rget_rsets_not ht, rget_rset]
      simp only [keys, List.map_cons, List.mem_cons] at h
      rcases h with rfl | h
      · simp [hl]
      · exact absurd h ht

theorem rsets_at {k : Nat} : ∀ {ups : List (Nat × Row)} {a b : List (Option Row)}, rlen a = rlen b → k ∈ keys ups → rget (rsets a ups) k = rget (rsets b ups) k
  | [], _, _, _, h => by simp [keys] at h
  | (n, r) :: t, a, b, hl, h => by
    simp only [rsets]
    by_cases ht : k ∈ keys t
    · exact rsets_at (by rw [rlen_rset, rlen_rset]; exact hl) ht
    · rw [rget_rsets_not ht, rget_rsets_not ht, rget_rset, rget_rset, hl]
      simp only [keys, List.map_cons, List.mem_cons] at h
      rcases h with rfl | h
      · by_cases hlt : k < rlen b
        · simp [hlt]
        · have hn : ∀ {c : List (Option Row)}, rlen c = rlen b → rget c k = none := by
            intro c hc
            cases hg : rget c k with
            | none => rfl
            | some r => have := rget_lt hg; omega
          simp [hlt, hn hl, hn rfl]
      · exact absurd h ht

theorem rsets_swap {a b : List (Nat × Row)} {rows : List (Option Row)} (h : ∀ k, k ∈ keys a → k ∉ keys b) : rsets (rsets rows a) b = rsets (rsets rows b) a := by
  refine rows_ext (by simp only [rlen_rsets]) fun k => ?_
  by_cases ha : k ∈ keys a
  · have hb := h k ha
    rw [rget_rsets_not hb]
    exact rsets_at (by rw [rlen_rsets]) ha
  · rw [rget_rsets_not (ups := a) ha]
    by_cases hb : k ∈ keys b
    · exact rsets_at (by rw [rlen_rsets]) hb
    · rw [rget_rsets_not hb, rget_rsets_not hb, rget_rsets_not ha]

def EqE (env env' : List (Nat × V)) : Prop := ∀ t, eget env' t = eget env t

end Go.Proofs.Ytcipegkeoheikaa.Dx
/- Operations of a region that change places: they do what they did. -/
namespace Go.Proofs.Ytcipegkeoheikaa.Dx
open Go

theorem foot_loc {env env' : List (Nat × V)} {rows rows' : List (Option Row)} {o : Oper} (hE : ∀ x, x ∈ opnds o.op → evalO env' x = evalO env x) (h : Same rows rows' (foot env rows o)) : foot env' rows' o = foot env rows o := by
  unfold foot at h ⊢
  have e : evalL env' (opnds o.op) = evalL env (opnds o.op) := evalL_loc hE
  split
  · rename_i c hop
    rw [hop] at h e
    simp only at h
    split
    · rename_i f hf
      rw [hop, e]
      rw [hf] at h
      exact clo_loc h
    · rw [hop, e]
  · rw [e]

variable {R : Type} {P : Program} {ty : TypeId → TyD} {all : List Oper}

theorem OkL.move {l : Lab} {env env' : List (Nat × V)} {rows rows' : List (Option Row)} (h : OkL R P ty all l env rows) (hE : ∀ x, x ∈ opnds l.o.op → evalO env' x = evalO env x) (hg : guardOf all l.o env' = guardOf all l.o env)
    (hR : idle l.o = true ∨ l.act = none ∨ Same rows rows' (Dx.foot env rows l.o)) (hk : ∀ k, k ∈ Dx.keys l.ups → k < rlen rows' ∧ (rget rows' k ≠ none ∨ (l.nid ≤ k ∧ k < l.nid + slotsOf l.o)))
    (hf : ∀ i, i < slotsOf l.o → rget rows' (l.nid + i) = none) (hr : rlen rows' = rlen rows) : OkL R P ty all l env' rows' where
  guard := hg.trans h.guard
  tells ha := by
    refine (h.tells ha).move hE ?_ fun i hi => (hf i hi).trans (h.fresh i hi).symm
    rcases hR with hR | hR | hR
    · exact .inl hR
    · rw [hR] at ha; cases ha
    · exact .inr hR
  foot := by
    rcases h.foot with h1 | h1 | h1
    · exact .inl h1
    · exact .inr (.inl h1)
    · rcases hR with hR | hR | hR
      · exact .inl hR
      · exact .inr (.inl hR)
      · right; right
        rw [h1]
        exact (foot_loc hE hR).symm
  keys := hk
  fresh := hf
  room := by rw [hr]; exact h.room

theorem OkL.eqE {l : Lab} {env env' : List (Nat × V)} {rows : List (Option Row)} (h : OkL R P ty all l env rows) (he : EqE env env') : OkL R P ty all l env' rows := by
  refine h.move (fun x _ => ?_) ?_ (.inr (.inr fun _ _ => rfl)) h.keys h.fresh rfl
  · cases x with
    | tmp t => exact he t
    | _ => rfl
  · have e : eget env' = eget env := funext he
    unfold guardOf
    simp only [e]

theorem EqE.refl (env : List (Nat × V)) : EqE env env := fun _ => rfl
theorem EqE.trans {a b c : List (Nat × V)} (h : EqE a b) (k : EqE b c) : EqE a c := fun t => (k t).trans (h t)
theorem EqE.put {a b : List (Nat × V)} (h : EqE a b) (dst : Option Tmp) (v : V) : EqE (putE a dst v) (putE b dst v) := fun t => by rw [eget_put, eget_put, h t]

def Lab.toE (l : Lab) (env : List (Nat × V)) : List (Nat × V) := putE env l.o.dst l.v
def Lab.toR (l : Lab) (rows : List (Option Row)) : List (Option Row) := rsets rows l.ups

theorem Lab.none_ups {l : Lab} (h : l.act = none) : l.ups = [] := by unfold Lab.ups; rw [h]

theorem lookT_op {all : List Oper} {o : Oper} {d : Nat} (h : d ∉ lookT all o) : d ∉ opTmps (opnds o.op) := fun hc => h (List.mem_append_left _ hc)

theorem swap {x y : Lab} {env : List (Nat × V)} {rows : List (Option Row)} (hx : OkL R P ty all x env rows) (hy : OkL R P ty all y (x.toE env) (x.toR rows)) (hi : Indep all x y) :
    OkL R P ty all y env rows ∧ OkL R P ty all x (y.toE env) (y.toR rows) ∧ EqE (x.toE (y.toE env)) (y.toE (x.toE env)) ∧ x.toR (y.toR rows) = y.toR (x.toR rows) := by
  have hlen : ∀ (l : Lab) rows, rlen (l.toR rows) = rlen rows := fun l rows => rlen_rsets _ _
  -- where y looks, x has not written
  have notx : ∀ {k}, k ∉ keys x.ups → rget (x.toR rows) k = rget rows k := fun hk => rget_rsets_not hk
  have noty : ∀ {k}, k ∉ keys y.ups → rget (y.toR rows) k = rget rows k := fun hk => rget_rsets_not hk
  -- the places that y may fill are none of x's
  have yfree : ∀ i, i < slotsOf y.o → y.nid + i ∉ keys x.ups := fun i hi' hk => rget_rsets_has hk (hx.keys _ hk).1 (hy.fresh i hi')
  have ykeys : ∀ k, k ∈ keys y.ups → k < rlen rows ∧ (rget rows k ≠ none ∨ (y.nid ≤ k ∧ k < y.nid + slotsOf y.o)) := by
    intro k hk
    obtain ⟨h1, h2⟩ := hy.keys k hk
    rw [hlen] at h1
    refine ⟨h1, ?_⟩
    rw [notx fun hc => hi.w k hc hk] at h2
    exact h2
  have xfree : ∀ i, i < slotsOf x.o → x.nid + i ∉ keys y.ups := by
    intro i hi' hk
    rcases (ykeys _ hk).2 with h2 | h2
    · exact h2 (hx.fresh i hi')
    · rcases hi.rng with h3 | h3 <;> omega
  have eE : ∀ z, z ∈ opnds y.o.op → evalO (x.toE env) z = evalO env z := evalO_put fun d hd => lookT_op (hi.xy d hd).1
  have gE : guardOf all y.o (x.toE env) = guardOf all y.o env := guard_put fun d hd => (hi.xy d hd).1
  have footy : idle y.o = true ∨ y.act = none ∨ Same (x.toR rows) rows (foot (x.toE env) (x.toR rows) y.o) := by
    rcases hy.foot with h1 | h1 | h1
    · exact .inl h1
    · exact .inr (.inl h1)
    · rcases hi.fy with h2 | h2
      · exact .inl h2
      · right; right
        intro k hk
        rw [← h1] at hk
        exact (notx fun hc => h2 k hc hk).symm
  refine ⟨?_, ?_, ?_, ?_⟩
  · exact hy.move (fun z hz => (eE z hz).symm) gE.symm footy ykeys (fun i hi' => by rw [← notx (yfree i hi')]; exact hy.fresh i hi') (hlen x rows).symm
  · refine hx.move (evalO_put fun d hd => lookT_op (hi.yx d hd)) (guard_put fun d hd => hi.yx d hd) ?_ ?_ (fun i hi' => by rw [noty (xfree i hi')]; exact hx.fresh i hi') (hlen y rows)
    · rcases hx.foot with h1 | h1 | h1
      · exact .inl h1
      · exact .inr (.inl h1)
      · rcases hi.fx with h2 | h2
        · exact .inl h2
        · right; right
          intro k hk
          rw [← h1] at hk
          exact noty fun hc => h2 k hc hk
    · intro k hk
      obtain ⟨h1, h2⟩ := hx.keys k hk
      rw [hlen, noty (hi.w k hk)]
      exact ⟨h1, h2⟩
  · intro t
    simp only [Lab.toE]
    rw [eget_put, eget_put, eget_put, eget_put]
    by_cases h1 : x.o.dst = some t
    · by_cases h2 : y.o.dst = some t
      · exact absurd h2 (hi.xy t h1).2
      · simp [h1, h2]
    · simp [h1]
  · exact rsets_swap fun k hk hc => hi.w k hc hk

/-- The text-order run of what is left of a region. -/
def RunL (R : Type) (P : Program) (ty : TypeId → TyD) (all : List Oper) : List Lab → List (Nat × V) → List (Option Row) → Prop
  | [], _, _ => True
  | l :: t, env, rows => OkL R P ty all l env rows ∧ RunL R P ty all t (l.toE env) (l.toR rows)

def finE : List Lab → List (Nat × V) → List (Nat × V)
  | [], env => env
  | l :: t, env => finE t (l.toE env)
def finR : List Lab → List (Option Row) → List (Option Row)
  | [], rows => rows
  | l :: t, rows => finR t (l.toR rows)

theorem finE_eq : ∀ {L : List Lab} {env env' : List (Nat × V)}, EqE env env' → EqE (finE L env) (finE L env')
  | [], _, _, h => h
  | _ :: t, _, _, h => finE_eq (L := t) (h.put _ _)

theorem RunL.eqE : ∀ {L : List Lab} {env env' : List (Nat × V)} {rows : List (Option Row)}, RunL R P ty all L env rows → EqE env env' → RunL R P ty all L env' rows
  | [], _, _, _, _, _ => trivial
  | _ :: t, _, _, _, h, he => ⟨h.1.eqE he, RunL.eqE (L := t) h.2 (he.put _ _)⟩

/-- One that is independent of all before it may go first. -/
theorem RunL.first : ∀ {A B : List Lab} {y : Lab} {env : List (Nat × V)} {rows : List (Option Row)}, RunL R P ty all (A ++ y :: B) env rows → (∀ x, x ∈ A → Indep all x y) →
    RunL R P ty all (y :: (A ++ B)) env rows ∧ EqE (finE (A ++ y :: B) env) (finE (y :: (A ++ B)) env) ∧ finR (y :: (A ++ B)) rows = finR (A ++ y :: B) rows
  | [], B, y, env, rows, h, _ => ⟨h, EqE.refl _, rfl⟩
  | x :: A, B, y, env, rows, h, hi => by
    obtain ⟨h1, h2⟩ := h
    obtain ⟨⟨g1, g2⟩, g3, g4⟩ := RunL.first (A := A) (B := B) (y := y) h2 fun z hz => hi z (by simp [hz])
    obtain ⟨s1, s2, s3, s4⟩ := swap h1 g1 (hi x (by simp))
    refine ⟨⟨s1, s2, ?_⟩, ?_, ?_⟩
    · rw [s4]
      exact g2.eqE fun t => (s3 t).symm
    · show EqE (finE (A ++ y :: B) (x.toE env)) (finE (A ++ B) (x.toE (y.toE env)))
      exact g3.trans (finE_eq fun t => (s3 t).symm)
    · show finR (A ++ B) (x.toR (y.toR rows)) = finR (A ++ y :: B) (x.toR rows)
      rw [s4]
      exact g4

end Go.Proofs.Ytcipegkeoheikaa.Dx
/- A region in the text's order: its labels. -/
namespace Go.Proofs.Ytcipegkeoheikaa.Dx
open Go

variable {R : Type} {P : Program} {all : List Oper} {free : List (Nat × Nat)}

def MatchL : List Oper → Nat → Nat → List Lab → Prop
  | [], _, _, L => L = []
  | o :: t, i, nid, L => ∃ l L', L = l :: L' ∧ l.i = i ∧ l.o = o ∧ l.nid = nid ∧ MatchL t (i + 1) (nid + slotsOf o) L'

def PairOk (free : List (Nat × Nat)) (t : Trace) (l : Lab) : Prop :=
  l.act.isSome = true → isPair t.i l.i free = true → (∀ k, k ∈ keys l.ups → k ∉ t.F ∧ k ∉ t.W) ∧ ∀ k, k ∈ t.W → k ∉ l.F

def PairsOk (free : List (Nat × Nat)) : List Lab → Prop
  | [] => True
  | x :: L => (x.act.isSome = true → ∀ y, y ∈ L → PairOk free ⟨x.i, x.F, keys x.ups⟩ y) ∧ PairsOk free L

theorem upKeys_eq : ∀ (ups : List (Nat × Row)), upKeys ups = keys ups
  | [] => rfl
  | (k, r) :: t => by simp [upKeys, keys, upKeys_eq t]

theorem isPair_free {j i : Nat} : ∀ {l : List (Nat × Nat)}, isPair j i l = true → inFree j l = true ∧ inFree i l = true
  | [], h => by simp [isPair] at h
  | (a, b) :: t, h => by
    simp only [isPair, inFree] at h ⊢
    cases hc : (Nat.beq a j && Nat.beq b i) with
    | true =>
      simp only [Bool.and_eq_true] at hc
      rw [hc.1, hc.2]
      simp [cnd]
    | false =>
      rw [hc] at h
      simp only [cnd] at h
      obtain ⟨h1, h2⟩ := isPair_free h
      constructor
      · cases (Nat.beq a j || Nat.beq b j) <;> simp [cnd, h1]
      · cases (Nat.beq a i || Nat.beq b i) <;> simp [cnd, h2]

theorem freeOk_spec {i : Nat} {F W : List Nat} : ∀ {acc : List Trace}, freeOk free i F W acc = true → ∀ t, t ∈ acc → isPair t.i i free = true → (∀ k, k ∈ W → k ∉ t.F ∧ k ∉ t.W) ∧ ∀ k, k ∈ t.W → k ∉ F
  | [], _, t, ht, _ => by simp at ht
  | s :: acc, h, t, ht, hp => by
    simp only [freeOk] at h
    rcases List.mem_cons.1 ht with rfl | ht
    · rw [hp] at h
      simp only [cnd] at h
      cases hc : (common W t.F || common W t.W || common t.W F) with
      | true => rw [hc] at h; simp at h
      | false =>
        simp only [Bool.or_eq_false_iff] at hc
        exact ⟨fun k hk => ⟨common_not hc.1.1 k hk, common_not hc.1.2 k hk⟩, common_not hc.2⟩
    · refine freeOk_spec ?_ t ht hp
      cases hq : isPair s.i i free with
      | false => rw [hq] at h; exact h
      | true =>
        rw [hq] at h
        simp only [cnd] at h
        cases hc : (common W s.F || common W s.W || common s.W F) with
        | true => rw [hc] at h; simp at h
        | false => rw [hc] at h; exact h

theorem fresh_spec {rows : List (Option Row)} {nid n : Nat} : ∀ {ups : List (Nat × Row)}, fresh rows nid n ups = true → nid + n ≤ rlen rows → ∀ k, k ∈ keys ups → k < rlen rows ∧ (rget rows k ≠ none ∨ (nid ≤ k ∧ k < nid + n))
  | [], _, _, k, hk => by simp [keys] at hk
  | (m, r) :: t, h, hl, k, hk => by
    simp only [fresh, Bool.and_eq_true] at h
    simp only [keys, List.map_cons, List.mem_cons] at hk
    rcases hk with rfl | hk
    · cases hr : rget rows k with
      | some r' => exact ⟨rget_lt hr, .inl (by simp)⟩
      | none =>
        rw [hr] at h
        simp only [Bool.and_eq_true] at h
        have h1 := Nat.le_of_ble_eq_true h.1.1
        have h2 : k < nid + n := Nat.le_of_ble_eq_true h.1.2
        exact ⟨by omega, .inr ⟨h1, h2⟩⟩
    · exact fresh_spec h.2 hl k hk

/-- What is shown of the rest of a region. -/
def Ran (R : Type) (P : Program) (ty : TypeId → TyD) (all : List Oper) (free : List (Nat × Nat)) (ops : List Oper) (i : Nat) (acc : List Trace) (nid : Nat) (env : List (Nat × V)) (rows : List (Option Row)) (K : List (Nat × V) → List (Option Row) → Option R) (r : R) : Prop :=
  ∃ L envf, K envf (finR L rows) = some r ∧ EqE (finE L env) envf ∧ RunL R P ty all L env rows ∧ MatchL ops i nid L ∧ (∀ t, t ∈ acc → ∀ l, l ∈ L → PairOk free t l) ∧ PairsOk free L

theorem Ran.cons {ty : TypeId → TyD} {o : Oper} {t : List Oper} {i nid : Nat} {acc acc' : List Trace} {env env1 : List (Nat × V)} {rows : List (Option Row)} {K : List (Nat × V) → List (Option Row) → Option R} {r : R} {l : Lab}
    (hl : l.i = i ∧ l.o = o ∧ l.nid = nid) (he : EqE env env1) (hok : OkL R P ty all l env1 rows) (h : Ran R P ty all free t (i + 1) acc' (nid + slotsOf o) (l.toE env1) (l.toR rows) K r) (hsub : ∀ s, s ∈ acc → s ∈ acc')
    (hacc : ∀ s, s ∈ acc → PairOk free s l) (hown : l.act.isSome = true → inFree i free = true → (⟨l.i, l.F, keys l.ups⟩ : Trace) ∈ acc') : Ran R P ty all free (o :: t) i acc nid env rows K r := by
  obtain ⟨L, envf, h1, h2, h3, h4, h5, h6⟩ := h
  have es : EqE env1 env := fun t => (he t).symm
  refine ⟨l :: L, envf, h1, ?_, ⟨hok.eqE es, h3.eqE (es.put _ _)⟩, ⟨l, L, rfl, hl.1, hl.2.1, hl.2.2, h4⟩, ?_, ?_, h6⟩
  · exact (finE_eq (he.put _ _)).trans h2
  · intro s hs m hm
    rcases List.mem_cons.1 hm with rfl | hm
    · exact hacc s hs
    · exact h5 s (hsub s hs) m hm
  · intro ha y hy hya hp
    have := isPair_free hp
    exact h5 _ (hown ha (by rw [← hl.1]; exact this.1)) y hy hya hp

end Go.Proofs.Ytcipegkeoheikaa.Dx
/- A region in the text's order is run as its labels say. -/
namespace Go.Proofs.Ytcipegkeoheikaa.Dx
open Go

variable {R : Type} {P : Program} {all : List Oper} {free : List (Nat × Nat)}

theorem opsK_run {X : Ctx R} (hX : Snd P X) : ∀ {ops : List Oper} {i : Nat} {acc : List Trace} {nid : Nat} {env : List (Nat × V)} {rows : List (Option Row)} {K : List (Nat × V) → List (Option Row) → Option R} {r : R},
    opsK X all free ops i acc nid env rows K = some r → (∀ j, nid ≤ j → j < nid + slots ops → rget rows j = none) → nid + slots ops ≤ rlen rows → Ran R P X.ty all free ops i acc nid env rows K r
  | [], i, acc, nid, env, rows, K, r, h, _, _ => ⟨[], env, h, EqE.refl _, trivial, rfl, fun _ _ l hl => by simp at hl, trivial⟩
  | o :: t, i, acc, nid, env, rows, K, r, h, hf, hr => by
    simp only [slots] at hf hr
    have skip : ∀ env1, EqE env env1 → guardOf all o env1 = some false → opsK X all free t (i + 1) acc (nid + slotsOf o) (putE env1 o.dst (.tup .lnil)) rows K = some r → Ran R P X.ty all free (o :: t) i acc nid env rows K r := by
      intro env1 he hg hk
      refine Ran.cons (l := ⟨i, o, nid, none⟩) (acc' := acc) ⟨rfl, rfl, rfl⟩ he ?_ (opsK_run hX hk (fun j h1 h2 => hf j (by omega) (by omega)) (by show _ ≤ rlen rows; omega)) (fun _ h => h) (fun _ _ ha => by cases ha) (fun ha => by cases ha)
      exact ⟨hg, fun ha => (by cases ha), .inr (.inl rfl), fun k hk => (by simp [Lab.ups, keys] at hk), fun j hj => hf _ (by simp only; omega) (by simp only at hj ⊢; omega), by simp only; omega⟩
    have go : ∀ env1, EqE env env1 → guardOf all o env1 = some true → (effK X env1 rows nid o fun v ups =>
        let on (acc : List Trace) : Option R :=
          match ups with
          | [] => opsK X all free t (i + 1) acc (nid + slotsOf o) (putE env1 o.dst v) rows K
          | ups => cnd (fresh rows nid (slotsOf o) ups) (forceR (rsets rows ups) fun rows' => forceV v fun v => opsK X all free t (i + 1) acc (nid + slotsOf o) (putE env1 o.dst v) rows' K) none
        cnd (inFree i free) (natsK (foot env1 rows o) fun F => natsK (upKeys ups) fun W => cnd (freeOk free i F W acc) (on (⟨i, F, W⟩ :: acc)) none) (on acc)) = some r → Ran R P X.ty all free (o :: t) i acc nid env rows K r := by
      intro env1 he hg hk
      obtain ⟨v, ups, hk, ht⟩ := eff_tells hX hk
      simp only at hk
      have on : ∀ acc', (match ups with
          | [] => opsK X all free t (i + 1) acc' (nid + slotsOf o) (putE env1 o.dst v) rows K
          | ups => cnd (fresh rows nid (slotsOf o) ups) (forceR (rsets rows ups) fun rows' => forceV v fun v => opsK X all free t (i + 1) acc' (nid + slotsOf o) (putE env1 o.dst v) rows' K) none) = some r →
          opsK X all free t (i + 1) acc' (nid + slotsOf o) (putE env1 o.dst v) (rsets rows ups) K = some r ∧ ∀ k, k ∈ keys ups → k < rlen rows ∧ (rget rows k ≠ none ∨ (nid ≤ k ∧ k < nid + slotsOf o)) := by
        intro acc' hh
        split at hh
        · exact ⟨hh, fun k hk => by simp [keys] at hk⟩
        · obtain ⟨h1, h2⟩ := cnd_some hh
          exact ⟨forceV_some (K := fun v => opsK X all free t (i + 1) acc' (nid + slotsOf o) (putE env1 o.dst v) (rsets rows ups) K) (forceR_some h2), fresh_spec h1 (by omega)⟩
      have main : ∀ acc' F, (F = foot env1 rows o) → opsK X all free t (i + 1) acc' (nid + slotsOf o) (putE env1 o.dst v) (rsets rows ups) K = some r → (∀ k, k ∈ keys ups → k < rlen rows ∧ (rget rows k ≠ none ∨ (nid ≤ k ∧ k < nid + slotsOf o))) →
          (∀ s, s ∈ acc → s ∈ acc') → (∀ s, s ∈ acc → PairOk free s ⟨i, o, nid, some (v, ups, F)⟩) → (inFree i free = true → (⟨i, F, keys ups⟩ : Trace) ∈ acc') → Ran R P X.ty all free (o :: t) i acc nid env rows K r := by
        intro acc' F hF hk hkeys hsub hpair hown
        refine Ran.cons (l := ⟨i, o, nid, some (v, ups, F)⟩) (acc' := acc') ⟨rfl, rfl, rfl⟩ he ?_ (opsK_run hX hk ?_ ?_) hsub hpair (fun _ hi => hown hi)
        · exact ⟨hg, fun _ => ht, .inr (.inr hF), hkeys, fun j hj => hf _ (by simp only; omega) (by simp only at hj ⊢; omega), by simp only; omega⟩
        · intro j h1 h2
          show rget (rsets rows ups) j = none
          rw [rget_rsets_not]
          · exact hf j (by omega) (by omega)
          · intro hc
            rcases (hkeys j hc).2 with h3 | h3
            · exact h3 (hf j (by omega) (by omega))
            · omega
        · show _ ≤ rlen (rsets rows ups)
          rw [rlen_rsets]; omega
      cases hin : inFree i free with
      | true =>
        rw [hin] at hk
        simp only [cnd] at hk
        replace hk := natsK_some (natsK_some hk)
        obtain ⟨h1, h2⟩ := cnd_some (b := freeOk free i (foot env1 rows o) (upKeys ups) acc) hk
        obtain ⟨h3, h4⟩ := on _ h2
        rw [upKeys_eq] at h1
        refine main _ _ rfl h3 h4 (fun s hs => List.mem_cons_of_mem _ hs) (fun s hs _ hp => freeOk_spec h1 s hs hp) (fun _ => ?_)
        rw [upKeys_eq]
        exact List.mem_cons_self
      | false =>
        rw [hin] at hk
        simp only [cnd] at hk
        obtain ⟨h3, h4⟩ := on _ hk
        refine main _ _ rfl h3 h4 (fun s hs => hs) (fun s hs _ hp => ?_) (fun hc => by rw [hin] at hc; cases hc)
        have := (isPair_free hp).2
        simp only at this
        rw [hin] at this; cases this
    unfold opsK at h
    simp only at h
    cases hgu : o.guard with
    | none =>
      rw [hgu] at h
      exact go env (EqE.refl _) (by unfold guardOf; rw [hgu]) h
    | some gw =>
      obtain ⟨g, want⟩ := gw
      rw [hgu] at h
      simp only at h
      cases hd : dstOf all g with
      | none => rw [hd] at h; simp at h
      | some d =>
        rw [hd] at h
        simp only at h
        have eqb : ∀ b, eget env d = .val .bool b → EqE env ((d, .val .bool b) :: env) := by
          intro b hb t
          simp only [eget]
          cases hbt : Nat.beq d t with
          | true =>
            have := Nat.eq_of_beq_eq_true hbt
            subst this
            exact hb.symm
          | false => rfl
        have gd : ∀ b, eget env d = .val .bool b → guardOf all o ((d, .val .bool b) :: env) = some (b == want) := by
          intro b hb
          unfold guardOf
          rw [hgu]
          simp only [hd]
          rw [eqb b hb d, hb]
        split at h
        · rename_i b hb
          cases b with
          | true =>
            simp only [cond_true] at h
            cases want with
            | true => exact go _ (eqb _ hb) (gd _ hb) h
            | false => exact skip _ (eqb _ hb) (gd _ hb) h
          | false =>
            simp only [cond_false] at h
            cases want with
            | true => exact skip _ (eqb _ hb) (gd _ hb) h
            | false => exact go _ (eqb _ hb) (gd _ hb) h
        · rename_i hb
          exact skip env (EqE.refl _) (by unfold guardOf; rw [hgu]; simp only [hd]; rw [hb]) h
        · cases h

end Go.Proofs.Ytcipegkeoheikaa.Dx
/- One operation of a region in the model. -/
namespace Go.Proofs.Ytcipegkeoheikaa.Dx
open Go

variable {R : Type} {P : Program} {all : List Oper}

/-- The model's state is the evaluator's. -/
def Rel (w0 : World) (M0 : Mem) (ds : List Deferred) (n : Nat) (env : List (Nat × V)) (rows : List (Option Row)) (a : Act) (w : World) : Prop :=
  ∃ M : Mem, MemOk w0 M ∧ M.rows = rows ∧ M.w = w ∧ M.U = M0.U ∧ M.B = M0.B ∧ M.I = M0.I ∧ EntR M0 M ∧ EnvR M env a.tmps ∧ a.defers = ds ∧ a.tmps.size = n

theorem Rel.eqE {w0 : World} {M0 : Mem} {ds : List Deferred} {n : Nat} {env env' : List (Nat × V)} {rows : List (Option Row)} {a : Act} {w : World} (h : Rel w0 M0 ds n env rows a w) (he : EqE env env') : Rel w0 M0 ds n env' rows a w := by
  obtain ⟨M, h1, h2, h3, h4, h5, h6, h7, h8, h9⟩ := h
  exact ⟨M, h1, h2, h3, h4, h5, h6, h7, fun t => by rw [he t]; exact h8 t, h9⟩

theorem dstOf_eq : ∀ (l : List Oper) (j : Nat), dstOf l j = (l[j]?).bind (·.dst)
  | [], _ => rfl
  | _ :: _, 0 => rfl
  | _ :: t, j + 1 => dstOf_eq t j

theorem put_size (a : Act) (dst : Option Tmp) (u : Value) : (a.put dst u).tmps.size = a.tmps.size ∧ (a.put dst u).defers = a.defers := by
  cases dst <;> simp [Act.put]

theorem EnvR.put {M : Mem} {env : List (Nat × V)} {a : Act} {dst : Option Tmp} {v : V} {u : Value} (h : EnvR M env a.tmps) (hv : VR M v u) (hd : ∀ d, dst = some d → d < a.tmps.size) : EnvR M (putE env dst v) (a.put dst u).tmps := by
  intro t
  rw [eget_put]
  cases dst with
  | none => simpa [Act.put] using h t
  | some d =>
    have hlt := hd d rfl
    simp only [Act.put, Option.some.injEq]
    by_cases e : d = t
    · subst e
      have : (a.tmps.setIfInBounds d u).getD d undef = u := by simp [Array.getD_eq_getD_getElem?, hlt]
      rw [if_pos rfl, this]
      exact hv
    · have : (a.tmps.setIfInBounds d u).getD t undef = a.tmps.getD t undef := by
        simp [Array.getD_eq_getD_getElem?, Array.getElem?_setIfInBounds_ne e]
      rw [if_neg e, this]
      exact h t

theorem guard_wanted {M : Mem} {env : List (Nat × V)} {tmps : Array Value} {ops : Array Oper} (h : EnvR M env tmps) {o : Oper} {b : Bool} (hg : guardOf ops.toList o env = some b) : Region.wanted o (yielded ops tmps) = b := by
  unfold guardOf at hg
  unfold Region.wanted
  cases hgu : o.guard with
  | none => rw [hgu] at hg; simpa using hg
  | some gw =>
    obtain ⟨g, want⟩ := gw
    rw [hgu] at hg
    simp only at hg
    rw [dstOf_eq] at hg
    simp only [Array.getElem?_toList] at hg
    cases hd : (ops[g]?).bind (·.dst) with
    | none => rw [hd] at hg; simp at hg
    | some d =>
      rw [hd] at hg
      simp only at hg
      simp only [yielded, hd, Option.bind_some]
      have hv := h d
      rw [Array.getD_eq_getD_getElem?] at hv
      split at hg
      · rename_i b' hb
        rw [hb] at hv
        have := VR.val_bool hv
        simp only [Option.some.injEq] at hg
        cases ht : tmps[d]? with
        | none => rw [ht] at this; simp [undef] at this
        | some x =>
          rw [ht] at this
          simp only [Option.getD_some] at this
          subst this
          subst hg
          cases b' <;> cases want <;> rfl
      · rename_i hb
        rw [hb] at hv
        obtain ⟨us, h1, h2⟩ := hv
        simp only [VRL] at h1
        subst h1
        simp only [Option.some.injEq] at hg
        subst hg
        cases ht : tmps[d]? with
        | none => rfl
        | some x =>
          rw [ht] at h2
          simp only [Option.getD_some] at h2
          subst h2
          rfl
      · cases hg

theorem lab_step (r0 : R) {ty : TypeId → TyD} {ops : Array Oper} {l : Lab} {w0 : World} {M0 : Mem} {ds : List Deferred} {n : Nat} {env : List (Nat × V)} {rows : List (Option Row)} {a : Act} {w : World}
    (hok : OkL R P ty ops.toList l env rows) (hd : ∀ d, l.o.dst = some d → d < n) (h : Rel w0 M0 ds n env rows a w) {next : Act → World → Prop} {Q : Exit → Act → World → Prop}
    (hk : ∀ a' w', Rel w0 M0 ds n (l.toE env) (l.toR rows) a' w' → next a' w') :
    if Region.wanted l.o (yielded ops a.tmps) then l.o.wp P a w next Q ∨ (l.o.asks P a w ∧ LetsOut Q) else next (a.put l.o.dst undef) w := by
  obtain ⟨M, hM, rfl, rfl, h4, h5, h6, h7, h8, h9, h10⟩ := h
  have hw := guard_wanted (ops := ops) h8 hok.guard
  have hd' : ∀ d, l.o.dst = some d → d < a.tmps.size := fun d hh => by rw [h10]; exact hd d hh
  cases ha : l.act with
  | none =>
    rw [ha] at hw
    rw [hw]
    simp only [Option.isSome_none, Bool.false_eq_true, if_false]
    refine hk _ _ ⟨M, hM, ?_, rfl, h4, h5, h6, h7, ?_, ?_, ?_⟩
    · simp only [Lab.toR, Lab.ups, ha, rsets]
    · refine h8.put ?_ hd'
      simp only [Lab.v, ha]
      exact ⟨[], rfl, rfl⟩
    · rw [(put_size _ _ _).2]; exact h9
    · rw [(put_size _ _ _).1]; exact h10
  | some x =>
    rw [ha] at hw
    rw [hw]
    simp only [Option.isSome_some, if_true]
    left
    have ht := hok.tells (by rw [ha]; rfl)
    refine ht.wp r0 hM h8 ?_ hok.room ?_
    · intro i h1 h2
      have := hok.fresh (i - l.nid) (by omega)
      rwa [show l.nid + (i - l.nid) = i by omega] at this
    · intro u w' α' b1 b2 b3
      refine hk _ _ ⟨_, b1, rfl, rfl, h4, h5, h6, h7.goes b2, ?_, ?_, ?_⟩
      · exact EnvR.put (fun t => b2.vr hM (h8 t)) b3 hd'
      · rw [(put_size _ _ _).2]; exact h9
      · rw [(put_size _ _ _).1]; exact h10

end Go.Proofs.Ytcipegkeoheikaa.Dx
/- A region in the text's order, in the model. -/
namespace Go.Proofs.Ytcipegkeoheikaa.Dx
open Go

variable {R : Type} {P : Program}

theorem MatchL.idx : ∀ {t : List Oper} {i nid : Nat} {L : List Lab}, MatchL t i nid L → L.map (·.i) = List.range' i t.length
  | [], _, _, _, h => by simp only [MatchL] at h; subst h; rfl
  | o :: t, i, nid, L, h => by
    obtain ⟨l, L', rfl, rfl, rfl, rfl, h5⟩ := h
    simp only [List.map_cons, List.length_cons, List.range'_succ]
    rw [h5.idx]

theorem MatchL.op : ∀ {t : List Oper} {i nid : Nat} {L : List Lab}, MatchL t i nid L → ∀ l, l ∈ L → ∃ j, l.i = i + j ∧ t[j]? = some l.o
  | [], _, _, _, h, l, hl => by simp only [MatchL] at h; subst h; simp at hl
  | o :: t, i, nid, L, h, l, hl => by
    obtain ⟨l0, L', rfl, rfl, rfl, rfl, h5⟩ := h
    rcases List.mem_cons.1 hl with rfl | hl
    · exact ⟨0, rfl, rfl⟩
    · obtain ⟨j, h1, h2⟩ := h5.op l hl
      exact ⟨j + 1, by omega, by simpa using h2⟩

theorem run_ops (r0 : R) {ty : TypeId → TyD} {ops : Array Oper} {w0 : World} {M0 : Mem} {ds : List Deferred} {n : Nat} {Q : Exit → Act → World → Prop} : ∀ {L : List Lab} {env : List (Nat × V)} {rows : List (Option Row)} {a : Act} {w : World},
    RunL R P ty ops.toList L env rows → (∀ l, l ∈ L → ops[l.i]? = some l.o ∧ ∀ d, l.o.dst = some d → d < n) → Rel w0 M0 ds n env rows a w →
    (∀ a' w', Rel w0 M0 ds n (finE L env) (finR L rows) a' w' → Q .normal a' w') → wpOps P ops Q (L.map (·.i)) a w
  | [], env, rows, a, w, _, _, hr, hq => hq a w hr
  | l :: L, env, rows, a, w, hrun, hops, hr, hq => by
    obtain ⟨ho, hd⟩ := hops l (by simp)
    simp only [List.map_cons, wpOps, ho]
    exact lab_step r0 hrun.1 hd hr fun a' w' hr' => run_ops r0 hrun.2 (fun m hm => hops m (by simp [hm])) hr' hq

theorem region_text {X : Ctx R} (hX : Snd P X) {ops : Array Oper} {free : List (Nat × Nat)} {w0 : World} {M0 : Mem} {ds : List Deferred} {n : Nat} {Q : Exit → Act → World → Prop} {s : St} {a : Act} {w : World} {K : St → Option R} {r : R} {id : Nat}
    (h : regionK X ops free s K = some r) (hd : ∀ o, o ∈ ops.toList → ∀ d, o.dst = some d → d < n) (hr : Rel w0 M0 ds n s.env s.rows a w)
    (hq : ∀ a' w' env' rows', Rel w0 M0 ds n env' rows' a' w' → K { s with env := env', rows := rows' } = some r → Q .normal a' w') : (Code.region id ops false).wp P Q a w := by
  unfold regionK at h
  have hgrow : Rel w0 M0 ds n s.env (rapp s.rows (nones (slots ops.toList))) a w := by
    obtain ⟨M, h1, h2, h3, h4⟩ := hr
    have e : ∀ k, rget (rapp s.rows (nones (slots ops.toList))) k = rget M.rows k := fun k => by rw [rget_rapp_nones, h2]
    refine ⟨M.to M.w (rapp s.rows (nones (slots ops.toList))) M.α, same_ok h1 e, rfl, h3, h4.1, h4.2.1, h4.2.2.1, h4.2.2.2.1.goes (same_goes e), ?_, h4.2.2.2.2.2⟩
    exact fun t => (same_goes e).vr h1 (h4.2.2.2.2.1 t)
  obtain ⟨L, envf, h1, h2, h3, h4, h5, h6⟩ := opsK_run hX h (fun j hj _ => by
    rw [rget_rapp_nones]
    cases hg : rget s.rows j with
    | none => rfl
    | some r => have := rget_lt hg; omega) (by rw [rlen_rapp, rlen_nones]; omega)
  refine wp_region ?_
  have hidx := h4.idx
  rw [show List.range ops.size = L.map (·.i) by rw [hidx, List.range_eq_range']; simp]
  refine run_ops r h3 (fun l hl => ?_) hgrow fun a' w' hr' => hq a' w' envf _ (hr'.eqE h2) h1
  obtain ⟨j, g1, g2⟩ := h4.op l hl
  rw [Nat.zero_add] at g1
  subst g1
  exact ⟨by simpa using g2, hd l.o (List.mem_of_getElem? g2)⟩

end Go.Proofs.Ytcipegkeoheikaa.Dx
/- A region in any order, in the model. -/
namespace Go.Proofs.Ytcipegkeoheikaa.Dx
open Go

variable {R : Type} {P : Program}

/-- Operation i waits for operation j, by one edge or several. -/
inductive Dep (ops : Array Oper) : Nat → Nat → Prop
  | edge {i : Nat} {o : Oper} {e : Edge} (ho : ops[i]? = some o) (he : e ∈ o.after) (hb : Region.binds .any e = true) : Dep ops e.on i
  | trans {j k i : Nat} (h1 : Dep ops j k) (h2 : Dep ops k i) : Dep ops j i

/-- What is listed has all that it waits for before it. -/
def Shut (ops : Array Oper) (listed : Array Bool) : Prop := ∀ (i : Nat) (o : Oper), listed.getD i false = true → ops[i]? = some o → ∀ e, e ∈ o.after → Region.binds .any e = true → listed.getD e.on false = true

theorem Dep.listed {ops : Array Oper} {listed : Array Bool} (hc : Shut ops listed) {j i : Nat} (h : Dep ops j i) : listed.getD i false = true → listed.getD j false = true := by
  induction h with
  | edge ho he hb => exact fun hi => hc _ _ hi ho _ he hb
  | trans _ _ ih1 ih2 => exact fun hi => ih1 (ih2 hi)

theorem Dep.ready {ops : Array Oper} {listed : Array Bool} (hc : Shut ops listed) {j i : Nat} (h : Dep ops j i) : (∀ o, ops[i]? = some o → ∀ e, e ∈ o.after → Region.binds .any e = true → listed.getD e.on false = true) → listed.getD j false = true := by
  induction h with
  | edge ho he hb => exact fun hi => hi _ ho _ he hb
  | trans h1 _ _ ih2 => exact fun hi => h1.listed hc (ih2 hi)

theorem mem_ready' {ops : Array Oper} {listed : Array Bool} {i : Nat} : i ∈ Region.ready .any ops listed ↔ i < ops.size ∧ listed.getD i true = false ∧ ∃ o, ops[i]? = some o ∧ ∀ e, e ∈ o.after → Region.binds .any e = true → listed.getD e.on false = true := by
  unfold Region.ready
  simp only [List.mem_filter, List.mem_range, Bool.and_eq_true, Bool.not_eq_true']
  constructor
  · rintro ⟨h1, h2, h3⟩
    refine ⟨h1, h2, ops[i], by simp [h1], fun e he hb => ?_⟩
    simp only [Array.getElem?_eq_getElem h1, Option.map_some, Option.getD_some, Array.all_eq_true_iff_forall_mem] at h3
    have := h3 e he
    simp only [Bool.or_eq_true, Bool.not_eq_true'] at this
    rcases this with h | h
    · rw [hb] at h; cases h
    · exact h
  · rintro ⟨h1, h2, o, ho, h3⟩
    refine ⟨h1, h2, ?_⟩
    rw [ho]
    simp only [Option.map_some, Option.getD_some, Array.all_eq_true_iff_forall_mem]
    intro e he
    cases hb : Region.binds .any e with
    | false => rfl
    | true => simpa [hb] using h3 e he hb

theorem run_any (r0 : R) {ty : TypeId → TyD} {ops : Array Oper} {w0 : World} {M0 : Mem} {ds : List Deferred} {n : Nat} {Q : Exit → Act → World → Prop} : ∀ (m : Nat) {L : List Lab} {listed : Array Bool} {env : List (Nat × V)} {rows : List (Option Row)} {a : Act} {w : World},
    L.length = m → RunL R P ty ops.toList L env rows → (∀ l, l ∈ L → ops[l.i]? = some l.o ∧ (∀ d, l.o.dst = some d → d < n) ∧ ∀ e, e ∈ l.o.after → Region.binds .any e = true → e.on < l.i) →
    L.Pairwise (fun x y => x.i < y.i ∧ (¬ Dep ops x.i y.i → Indep ops.toList x y)) → Shut ops listed → (∀ i, i < ops.size → (listed.getD i true = false ↔ i ∈ L.map (·.i))) → listed.size = ops.size →
    Rel w0 M0 ds n env rows a w → (∀ a' w', Rel w0 M0 ds n (finE L env) (finR L rows) a' w' → Q .normal a' w') → wpAny P .any ops Q m listed a w
  | 0, L, listed, env, rows, a, w, hm, _, _, _, _, hl, _, hr, hq => by
    obtain rfl := List.eq_nil_of_length_eq_zero hm
    refine ⟨?_, hq a w hr⟩
    refine List.eq_nil_iff_forall_not_mem.2 fun i hi => ?_
    obtain ⟨h1, h2, _⟩ := mem_ready'.1 hi
    have := (hl i h1).1 h2
    simp at this
  | m + 1, L, listed, env, rows, a, w, hm, hrun, hops, hpw, hsh, hl, hsz, hr, hq => by
    constructor
    · intro hnil
      exfalso
      cases L with
      | nil => simp at hm
      | cons l L =>
        obtain ⟨h1, h2, h3⟩ := hops l (by simp)
        have hlt : l.i < ops.size := (Array.getElem?_eq_some_iff.1 h1).1
        have : l.i ∈ Region.ready .any ops listed := by
          refine mem_ready'.2 ⟨hlt, (hl l.i hlt).2 (by simp), l.o, h1, fun e he hb => ?_⟩
          have hlt2 : e.on < l.i := h3 e he hb
          have hn : ¬ listed.getD e.on true = false := by
            rw [hl e.on (by omega)]
            simp only [List.map_cons, List.mem_cons, List.mem_map, not_or]
            refine ⟨by omega, ?_⟩
            rintro ⟨x, hx, hxi⟩
            have := ((List.pairwise_cons.1 hpw).1 x hx).1
            omega
          have hs : e.on < listed.size := by omega
          simp only [Array.getD, hs, dif_pos] at hn ⊢
          simpa using hn
        rw [hnil] at this
        cases this
    · intro i hi
      obtain ⟨h1, h2, o, ho, h3⟩ := mem_ready'.1 hi
      obtain ⟨y, hy, hyi⟩ := List.mem_map.1 ((hl i h1).1 h2)
      obtain ⟨A, B, rfl⟩ := List.append_of_mem hy
      obtain ⟨hyo, hyd, _⟩ := hops y hy
      have eo : o = y.o := by rw [hyi] at hyo; rw [ho] at hyo; exact Option.some.inj hyo
      have hfirst : ∀ x, x ∈ A → Indep ops.toList x y := by
        intro x hx
        have hp := (List.pairwise_append.1 hpw).2.2 x hx y (by simp)
        refine hp.2 fun hdep => ?_
        rw [hyi] at hdep
        have h4 := hdep.ready hsh fun o' ho' e he hb => h3 e (by rw [ho] at ho'; rw [Option.some.inj ho']; exact he) hb
        have hxlt : x.i < ops.size := (Array.getElem?_eq_some_iff.1 (hops x (by simp [hx])).1).1
        have h5 := (hl x.i hxlt).2 (List.mem_map.2 ⟨x, by simp [hx], rfl⟩)
        have hs : x.i < listed.size := by omega
        simp only [Array.getD, hs, dif_pos] at h4 h5
        rw [h4] at h5; cases h5
      obtain ⟨⟨g1, g2⟩, g3, g4⟩ := hrun.first hfirst
      unfold wpOp
      rw [ho, eo]
      simp only
      refine lab_step r0 g1 hyd hr fun a' w' hr' => ?_
      refine run_any r0 m (L := A ++ B) (by simp at hm ⊢; omega) g2 (fun l hl' => hops l (by simp at hl' ⊢; rcases hl' with h | h <;> simp [h])) ?_ ?_ ?_ (by simp [hsz]) hr' ?_
      · have := hpw.sublist (List.Sublist.append (List.Sublist.refl A) (List.sublist_cons_self y B))
        exact this
      · have up : ∀ k, listed.getD k false = true → (listed.setIfInBounds i true).getD k false = true := by
          intro k hk
          by_cases e : k = i
          · subst e
            have hks : k < listed.size := by omega
            simp [Array.getD, hks]
          · rw [show (listed.setIfInBounds i true).getD k false = listed.getD k false by simp [Array.getD_eq_getD_getElem?, Array.getElem?_setIfInBounds_ne (Ne.symm e)]]
            exact hk
        intro k o' hk ho' e he hb
        by_cases ek : k = i
        · subst ek
          rw [ho] at ho'
          obtain rfl := Option.some.inj ho'
          exact up _ (h3 e he hb)
        · rw [show (listed.setIfInBounds i true).getD k false = listed.getD k false by simp [Array.getD_eq_getD_getElem?, Array.getElem?_setIfInBounds_ne (Ne.symm ek)]] at hk
          exact up _ (hsh k o' hk ho' e he hb)
      · intro k hk
        have hks : k < listed.size := by omega
        have hdis : i ∉ (A ++ B).map (·.i) := by
          intro hc
          obtain ⟨x, hx, hxi⟩ := List.mem_map.1 hc
          rcases List.mem_append.1 hx with hx | hx
          · have := ((List.pairwise_append.1 hpw).2.2 x hx y (by simp)).1; omega
          · have := ((List.pairwise_cons.1 (List.pairwise_append.1 hpw).2.1).1 x hx).1; omega
        by_cases e : k = i
        · subst e
          simp only [Array.getD, Array.size_setIfInBounds, hks, dif_pos]
          simp
          simpa using hdis
        · have e2 : (listed.setIfInBounds i true).getD k true = listed.getD k true := by
            simp [Array.getD_eq_getD_getElem?, Array.getElem?_setIfInBounds_ne (Ne.symm e)]
          rw [e2, hl k hk]
          simp only [List.map_append, List.map_cons, List.mem_append, List.mem_cons]
          constructor
          · rintro (h | h | h)
            · exact .inl h
            · omega
            · exact .inr h
          · rintro (h | h)
            · exact .inl h
            · exact .inr (.inr h)
      · intro a'' w'' hr''
        refine hq a'' w'' ?_
        have h5 : Rel w0 M0 ds n (finE (y :: (A ++ B)) env) (finR (A ++ y :: B) rows) a'' w'' := by rw [← g4]; exact hr''
        exact h5.eqE fun t => (g3 t).symm

end Go.Proofs.Ytcipegkeoheikaa.Dx
/- A region that draws its order. -/
namespace Go.Proofs.Ytcipegkeoheikaa.Dx
open Go

variable {R : Type} {P : Program}

theorem world_goes {M : Mem} {w' : World} (h : w'.heap = M.w.heap) : Goes M (M.to w' M.rows M.α) where
  U := rfl
  B := rfl
  I := rfl
  size := by simp only [Mem.to]; rw [h]; exact Nat.le_refl _
  kept b _ _ := by simp only [Mem.to]; rw [h]
  lives b hb := .inl hb
  rows k r hr := ⟨r, hr, Nat.le_refl _, fun _ => ⟨Alike.refl _, rfl⟩, Okv.refl r⟩

theorem world_ok {w0 : World} {M : Mem} (hM : MemOk w0 M) {w' : World} (h : w'.heap = M.w.heap) (h1 : w'.os = M.w.os) (h2 : w'.tape = M.w.tape) (h3 : w'.output = M.w.output) : MemOk w0 (M.to w' M.rows M.α) := by
  have hg := world_goes (M := M) h
  refine ⟨?_, hM.size0, ?_, h1.trans hM.os, h2.trans hM.tape, h3.trans hM.output, hM.disj, ?_, ?_, ?_, hM.sep⟩
  · simp only [Mem.to]; rw [h]; exact hM.size
  · intro b hb hI; simp only [Mem.to]; rw [h]; exact hM.old b hb hI
  · intro k r hr
    exact hg.body hM (hM.body k r hr) (fun n _ => by simp only [Mem.to]; rw [h])
  · intro k r b hr hf ha
    obtain ⟨⟨c, e, hp⟩, h2⟩ := hM.plain k r b hr hf ha
    exact ⟨⟨c, e, by simp only [Mem.to]; rw [h]; exact hp⟩, h2⟩
  · intro k r b hr hf ha
    exact hg.Ut hM (hM.froz k r b hr hf ha)

theorem Rel.drawn {w0 : World} {M0 : Mem} {ds : List Deferred} {n : Nat} {env : List (Nat × V)} {rows : List (Option Row)} {a : Act} {w : World} (h : Rel w0 M0 ds n env rows a w) (k : Nat) : Rel w0 M0 ds n env rows a { w with drawn := k } := by
  obtain ⟨M, h1, rfl, rfl, h4, h5, h6, h7, h8, h9⟩ := h
  have hg := world_goes (M := M) (w' := { M.w with drawn := k }) rfl
  exact ⟨_, world_ok h1 (w' := { M.w with drawn := k }) rfl rfl rfl rfl, rfl, rfl, h4, h5, h6, h7.goes hg, fun t => hg.vr h1 (h8 t), h9⟩

end Go.Proofs.Ytcipegkeoheikaa.Dx
/- Which operations of a region may change places, by the text. -/
namespace Go.Proofs.Ytcipegkeoheikaa.Dx
open Go

variable {R : Type} {P : Program}

/-- It writes no row. -/
def quiet (o : Oper) : Bool := Nat.beq (slotsOf o) 0 && (match o.op with | .store _ _ _ => false | _ => true)

theorem effK_quiet {X : Ctx R} {env : List (Nat × V)} {rows : List (Option Row)} {nid : Nat} {o : Oper} {K : V → List (Nat × Row) → Option R} (h : quiet o = true) :
    effK X env rows nid o K = effK X env rows nid o fun v u => match u with | [] => K v [] | _ => none := by
  obtain ⟨dst, op, ty, pos, after, guard⟩ := o
  cases op with
  | call c =>
    obtain ⟨callee, args, ats⟩ := c
    cases callee with
    | value f => simp [quiet, slotsOf] at h
    | builtin b =>
      cases b with
      | append => simp [quiet, slotsOf] at h
      | _ => first | (simp only [effK]; done) | (simp only [effK]; split <;> first | rfl | contradiction)
    | _ => rfl
  | makeFunc fn first caps => cases fn <;> rfl
  | slice t x lo hi mx => cases mx <;> rfl
  | alloc e => simp [quiet, slotsOf] at h
  | box e x => simp [quiet, slotsOf] at h
  | buildSlice t len parts => simp [quiet, slotsOf] at h
  | makeSlice t l c => simp [quiet, slotsOf] at h
  | store t a x => simp [quiet] at h
  | _ => rfl

theorem Tells.quiet (r0 : R) {ty : TypeId → TyD} {o : Oper} {nid : Nat} {env : List (Nat × V)} {rows : List (Option Row)} {v : V} {ups : List (Nat × Row)} (h : Tells R P ty o nid env rows v ups) (hq : Dx.quiet o = true) : ups = [] := by
  obtain ⟨X, _, _, h3⟩ := h
  have h1 := h3 fun _ _ => some r0
  have h2 := h3 fun v u => match u with | [] => some r0 | _ => none
  rw [effK_quiet hq, h2] at h1
  cases ups with
  | nil => rfl
  | cons x t => simp at h1

end Go.Proofs.Ytcipegkeoheikaa.Dx
/- Which operations of a region may change places, by the text: the check, and a region that draws its order. -/
namespace Go.Proofs.Ytcipegkeoheikaa.Dx
open Go

variable {R : Type} {P : Program}

def apartT (all : List Oper) (x y : Oper) : Bool :=
  (match x.dst with | some d => !mem d (lookT all y) && !(y.dst == some d) | none => true) && (match y.dst with | some d => !mem d (lookT all x) | none => true)

def dget : List (Nat × List Nat) → Nat → List Nat
  | [], _ => []
  | (j, l) :: t, i => cnd (Nat.beq j i) l (dget t i)

/-- All that an operation waits for, given that of those before it. -/
def depsE (tbl : List (Nat × List Nat)) : List Edge → List Nat
  | [] => []
  | e :: t => cnd (Region.binds .any e) (adds (add1 (depsE tbl t) e.on) (dget tbl e.on)) (depsE tbl t)

def pairB (all : List Oper) (free : List (Nat × Nat)) (ds : List Nat) (j : Nat) (x : Oper) (i : Nat) (y : Oper) : Bool :=
  mem j ds || (apartT all x y && (idle x || idle y || (quiet x && quiet y) || isPair j i free))

def pairsB (all : List Oper) (free : List (Nat × Nat)) (ds : List Nat) (i : Nat) (y : Oper) : List Oper → Nat → Bool
  | [], _ => true
  | x :: t, j => pairB all free ds j x i y && pairsB all free ds i y t (j + 1)

/-- Operation i (and those behind it) against all that stand before. -/
def drawB (all : List Oper) (free : List (Nat × Nat)) (done : List Oper) (tbl : List (Nat × List Nat)) : List Oper → Nat → Bool
  | [], _ => true
  | y :: t, i => pairsB all free (depsE tbl y.after.toList) i y done 0 && (y.after.all fun e => !Region.binds .any e || Nat.blt e.on i) && drawB all free (done ++ [y]) ((i, depsE tbl y.after.toList) :: tbl) t (i + 1)

def drawOk (ops : List Oper) (free : List (Nat × Nat)) : Bool := drawB ops free [] [] ops 0

theorem pairsB_spec {all : List Oper} {free : List (Nat × Nat)} {ds : List Nat} {i : Nat} {y : Oper} : ∀ {l : List Oper} {j : Nat}, pairsB all free ds i y l j = true → ∀ a x, l[a]? = some x → pairB all free ds (j + a) x i y = true
  | [], _, _, a, x, h => by simp at h
  | z :: t, j, h, a, x, ha => by
    simp only [pairsB, Bool.and_eq_true] at h
    cases a with
    | zero => simp only [List.getElem?_cons_zero, Option.some.injEq] at ha; subst ha; exact h.1
    | succ a =>
      have := pairsB_spec h.2 a x (by simpa using ha)
      rwa [show j + (a + 1) = j + 1 + a by omega]

/-- The table tells what each waits for. -/
def DepT (ops : Array Oper) (tbl : List (Nat × List Nat)) : Prop := ∀ k j, j ∈ dget tbl k → Dep ops j k

theorem depsE_spec {ops : Array Oper} {tbl : List (Nat × List Nat)} (ht : DepT ops tbl) {i : Nat} {o : Oper} (ho : ops[i]? = some o) : ∀ {l : List Edge}, (∀ e, e ∈ l → e ∈ o.after) → ∀ j, j ∈ depsE tbl l → Dep ops j i
  | [], _, j, h => by simp [depsE] at h
  | e :: t, hl, j, h => by
    simp only [depsE] at h
    cases hb : Region.binds .any e with
    | false =>
      rw [hb] at h
      exact depsE_spec ht ho (fun e he => hl e (by simp [he])) j h
    | true =>
      rw [hb] at h
      simp only [cnd] at h
      have he : Dep ops e.on i := .edge ho (hl e (by simp)) hb
      rcases mem_adds.1 h with h | h
      · have h' : j ∈ adds (depsE tbl t) [e.on] := h
        rcases mem_adds.1 h' with h | h
        · exact depsE_spec ht ho (fun e he => hl e (by simp [he])) j h
        · simp only [List.mem_singleton] at h
          rw [h]; exact he
      · exact (ht _ _ h).trans he

theorem drawB_spec {ops0 : Array Oper} {all : List Oper} {free : List (Nat × Nat)} : ∀ {ops done : List Oper} {tbl : List (Nat × List Nat)} {i : Nat}, drawB all free done tbl ops i = true → done.length = i → DepT ops0 tbl → (∀ b y, ops[b]? = some y → ops0[i + b]? = some y) → ∀ b y, ops[b]? = some y →
    (∀ a x, a < i + b → (done ++ ops)[a]? = some x → ∃ ds : List Nat, (∀ j, j ∈ ds → Dep ops0 j (i + b)) ∧ pairB all free ds a x (i + b) y = true) ∧ ∀ e, e ∈ y.after → Region.binds .any e = true → e.on < i + b
  | [], _, _, _, _, _, _, _, b, y, h => by simp at h
  | z :: t, done, tbl, i, h, hl, ht, hall, b, y, hb => by
    simp only [drawB, Bool.and_eq_true] at h
    have hz := hall 0 z rfl
    have hds := depsE_spec ht hz (l := z.after.toList) (fun e he => by simpa using he)
    cases b with
    | zero =>
      simp only [List.getElem?_cons_zero, Option.some.injEq] at hb
      subst hb
      refine ⟨fun a x ha hx => ⟨_, hds, ?_⟩, fun e he hbd => ?_⟩
      · rw [List.getElem?_append_left (by omega)] at hx
        simpa using pairsB_spec h.1.1 a x hx
      · have := (Array.all_eq_true_iff_forall_mem.1 h.1.2) e he
        rw [hbd] at this
        simp only [Bool.not_true, Bool.false_or] at this
        exact Nat.le_of_ble_eq_true this
    | succ b =>
      have ht' : DepT ops0 ((i, depsE tbl z.after.toList) :: tbl) := by
        intro k j hj
        simp only [dget] at hj
        cases hk : Nat.beq i k with
        | true =>
          have := Nat.eq_of_beq_eq_true hk
          subst this
          rw [hk] at hj
          exact hds j hj
        | false =>
          rw [hk] at hj
          exact ht k j hj
      obtain ⟨h1, h2⟩ := drawB_spec h.2 (by simp [hl]) ht' (fun b y hb => by rw [show i + 1 + b = i + (b + 1) by omega]; exact hall (b + 1) y (by simpa using hb)) b y (by simpa using hb)
      rw [show i + 1 + b = i + (b + 1) by omega] at h1 h2
      exact ⟨fun a x ha hx => h1 a x ha (by simpa using hx), h2⟩

theorem idle_quiet {o : Oper} (h : idle o = true) : quiet o = true := by
  obtain ⟨dst, op, ty, pos, after, guard⟩ := o
  cases op <;> first | rfl | (simp [idle] at h)

theorem Lab.quiet_ups (r0 : R) {ty : TypeId → TyD} {all : List Oper} {l : Lab} {env : List (Nat × V)} {rows : List (Option Row)} (h : OkL R P ty all l env rows) (hq : quiet l.o = true) : l.ups = [] := by
  cases ha : l.act with
  | none => exact Lab.none_ups ha
  | some x => exact (h.tells (by rw [ha]; rfl)).quiet r0 hq

theorem RunL.each {ty : TypeId → TyD} {all : List Oper} : ∀ {L : List Lab} {env : List (Nat × V)} {rows : List (Option Row)}, RunL R P ty all L env rows → ∀ l, l ∈ L → ∃ env rows, OkL R P ty all l env rows
  | [], _, _, _, l, hl => by simp at hl
  | m :: L, _, _, h, l, hl => by
    rcases List.mem_cons.1 hl with rfl | hl
    · exact ⟨_, _, h.1⟩
    · exact RunL.each h.2 l hl

theorem not_mem_B {n : Nat} {l : List Nat} (h : mem n l = false) : n ∉ l := fun hc => by rw [(mem_iff _ _).2 hc] at h; cases h

theorem indep_of {all : List Oper} {free : List (Nat × Nat)} {ds : List Nat} {x y : Lab} (h : pairB all free ds x.i x.o y.i y.o = true) (hn : x.i ∉ ds) (hx : quiet x.o = true → x.ups = []) (hy : quiet y.o = true → y.ups = [])
    (hp : x.act.isSome = true → PairOk free ⟨x.i, x.F, keys x.ups⟩ y) (hr : x.nid + slotsOf x.o ≤ y.nid) : Indep all x y := by
  have hd : mem x.i ds = false := by
    cases hd : mem x.i ds with
    | false => rfl
    | true => exact absurd ((mem_iff _ _).1 hd) hn
  unfold pairB at h
  rw [hd] at h
  simp only [Bool.false_or, Bool.and_eq_true, Bool.or_eq_true] at h
  obtain ⟨ht, hc⟩ := h
  unfold apartT at ht
  simp only [Bool.and_eq_true] at ht
  have inact : ∀ {l : Lab}, ¬ l.act.isSome = true → l.ups = [] ∧ l.F = [] := fun {l} hl => by
    cases ha : l.act with
    | none => exact ⟨Lab.none_ups ha, by unfold Lab.F; rw [ha]⟩
    | some v => rw [ha] at hl; exact absurd rfl hl
  have rows : (idle x.o = true ∨ ∀ k, k ∈ keys y.ups → k ∉ x.F) ∧ (idle y.o = true ∨ ∀ k, k ∈ keys x.ups → k ∉ y.F) ∧ ∀ k, k ∈ keys x.ups → k ∉ keys y.ups := by
    rcases hc with ((hc | hc) | hc) | hc
    · have e := hx (idle_quiet hc)
      exact ⟨.inl hc, .inr (by rw [e]; simp [keys]), by rw [e]; simp [keys]⟩
    · have e := hy (idle_quiet hc)
      exact ⟨.inr (by rw [e]; simp [keys]), .inl hc, by rw [e]; simp [keys]⟩
    · have e := hx hc.1
      have e' := hy hc.2
      exact ⟨.inr (by rw [e']; simp [keys]), .inr (by rw [e]; simp [keys]), by rw [e]; simp [keys]⟩
    · by_cases ax : x.act.isSome = true
      · by_cases ay : y.act.isSome = true
        · obtain ⟨p1, p2⟩ := hp ax ay hc
          exact ⟨.inr fun k hk => (p1 k hk).1, .inr p2, fun k hk hk' => (p1 k hk').2 hk⟩
        · obtain ⟨e, e'⟩ := inact ay
          exact ⟨.inr (by rw [e]; simp [keys]), .inr (by rw [e']; simp), by rw [e]; simp [keys]⟩
      · obtain ⟨e, e'⟩ := inact ax
        exact ⟨.inr (by rw [e']; simp), .inr (by rw [e]; simp [keys]), by rw [e]; simp [keys]⟩
  refine ⟨fun d hd => ?_, fun d hd => ?_, rows.1, rows.2.1, rows.2.2, .inl hr⟩
  · have := ht.1
    rw [hd] at this
    simp only [Bool.and_eq_true, Bool.not_eq_true'] at this
    exact ⟨not_mem_B this.1, fun hc => by rw [hc] at this; simp at this⟩
  · have := ht.2
    rw [hd] at this
    simp only [Bool.not_eq_true'] at this
    exact not_mem_B this

end Go.Proofs.Ytcipegkeoheikaa.Dx
/- A region that draws its order is sound. -/
namespace Go.Proofs.Ytcipegkeoheikaa.Dx
open Go

variable {R : Type} {P : Program}

theorem MatchL.nid : ∀ {t : List Oper} {i nid : Nat} {L : List Lab}, MatchL t i nid L → (∀ l, l ∈ L → i ≤ l.i ∧ nid ≤ l.nid) ∧ L.Pairwise fun x y => x.i < y.i ∧ x.nid + slotsOf x.o ≤ y.nid
  | [], _, _, _, h => by simp only [MatchL] at h; subst h; exact ⟨fun l hl => by simp at hl, List.Pairwise.nil⟩
  | o :: t, i, nid, L, h => by
    obtain ⟨l, L', rfl, rfl, rfl, rfl, h5⟩ := h
    obtain ⟨a1, a2⟩ := h5.nid
    refine ⟨fun m hm => ?_, List.Pairwise.cons (fun m hm => ⟨by have := (a1 m hm).1; omega, (a1 m hm).2⟩) a2⟩
    rcases List.mem_cons.1 hm with rfl | hm
    · exact ⟨Nat.le_refl _, Nat.le_refl _⟩
    · have := a1 m hm; omega

theorem PairsOk.pw {free : List (Nat × Nat)} : ∀ {L : List Lab}, PairsOk free L → L.Pairwise fun x y => x.act.isSome = true → PairOk free ⟨x.i, x.F, keys x.ups⟩ y
  | [], _ => List.Pairwise.nil
  | x :: L, h => List.Pairwise.cons (fun y hy ha => h.1 ha y hy) h.2.pw

theorem region_any {X : Ctx R} (hX : Snd P X) (hm : P.follows .mixedOrders = true) {ops : Array Oper} {free : List (Nat × Nat)} {w0 : World} {M0 : Mem} {ds : List Deferred} {n : Nat} {Q : Exit → Act → World → Prop} {s : St} {a : Act} {w : World} {K : St → Option R} {r : R} {id : Nat}
    (h : regionK X ops free s K = some r) (hd : ∀ o, o ∈ ops.toList → ∀ d, o.dst = some d → d < n) (hdraw : drawOk ops.toList free = true) (hr : Rel w0 M0 ds n s.env s.rows a w)
    (hq : ∀ a' w' env' rows', Rel w0 M0 ds n env' rows' a' w' → K { s with env := env', rows := rows' } = some r → Q .normal a' w') : (Code.region id ops true).wp P Q a w := by
  unfold regionK at h
  have hgrow : Rel w0 M0 ds n s.env (rapp s.rows (nones (slots ops.toList))) a w := by
    obtain ⟨M, h1, h2, h3, h4⟩ := hr
    have e : ∀ k, rget (rapp s.rows (nones (slots ops.toList))) k = rget M.rows k := fun k => by rw [rget_rapp_nones, h2]
    refine ⟨M.to M.w (rapp s.rows (nones (slots ops.toList))) M.α, same_ok h1 e, rfl, h3, h4.1, h4.2.1, h4.2.2.1, h4.2.2.2.1.goes (same_goes e), ?_, h4.2.2.2.2.2⟩
    exact fun t => (same_goes e).vr h1 (h4.2.2.2.2.1 t)
  obtain ⟨L, envf, h1, h2, h3, h4, h5, h6⟩ := opsK_run hX h (fun j hj _ => by
    rw [rget_rapp_nones]
    cases hg : rget s.rows j with
    | none => rfl
    | some r => have := rget_lt hg; omega) (by rw [rlen_rapp, rlen_nones]; omega)
  have hidx : L.map (·.i) = List.range' 0 ops.size := by rw [h4.idx]; simp
  have hlen : L.length = ops.size := by have := congrArg List.length hidx; simpa using this
  have hop : ∀ l, l ∈ L → ops.toList[l.i]? = some l.o := fun l hl => by
    obtain ⟨j, g1, g2⟩ := h4.op l hl
    rw [Nat.zero_add] at g1
    rw [g1]; exact g2
  have hspec := drawB_spec (ops0 := ops) hdraw rfl (fun k j hj => by simp [dget] at hj) (fun b y hb => by simpa using hb)
  refine wp_region_any hm ?_
  rw [← hlen]
  refine run_any r L.length rfl h3 (fun l hl => ⟨by simpa using hop l hl, hd l.o (List.mem_of_getElem? (hop l hl)), ?_⟩) ?_ ?_ ?_ (by simp [hlen]) (hgrow.drawn _) fun a' w' hr' => hq a' w' envf _ (hr'.eqE h2) h1
  · have := (hspec l.i l.o (hop l hl)).2
    simpa using this
  · refine List.Pairwise.imp_of_mem ?_ (List.Pairwise.and h4.nid.2 h6.pw)
    rintro x y hx hy ⟨⟨g1, g2⟩, g3⟩
    refine ⟨g1, fun hn => ?_⟩
    obtain ⟨dl, hp0, hp⟩ := (hspec y.i y.o (hop y hy)).1 x.i x.o (by omega) (by simpa using hop x hx)
    rw [Nat.zero_add] at hp hp0
    obtain ⟨_, _, ox⟩ := h3.each x hx
    obtain ⟨_, _, oy⟩ := h3.each y hy
    exact indep_of hp (fun hc => hn (hp0 _ hc)) (Lab.quiet_ups r ox) (Lab.quiet_ups r oy) g3 g2
  · intro i o hi
    simp only [Array.getD, Array.size_replicate] at hi
    split at hi
    · simp at hi
    · cases hi
  · intro i hi
    rw [hidx, List.mem_range'_1]
    simp [Array.getD, hlen, hi]

end Go.Proofs.Ytcipegkeoheikaa.Dx
/- The end of a call. -/
namespace Go.Proofs.Ytcipegkeoheikaa.Dx
open Go

theorem told_sound {R : Type} {w0 : World} : ∀ {ms : List RM} {vs : List V} {us : List Value} {M : Mem} {K : List V → List (Option Row) → Option R} {r : R}, MemOk w0 M → VS M vs us → told M.rows ms vs K = some r →
    ∃ vs' M', K vs' M'.rows = some r ∧ MemOk w0 M' ∧ Goes M M' ∧ M'.w = M.w ∧ VS M' vs' us
  | [], [], us, M, K, r, hM, hv, h => by
    cases hv
    exact ⟨[], M, h, hM, Goes.refl M, rfl, .nil⟩
  | .val s :: ms, v :: vs, us, M, K, r, hM, hv, h => by
    cases hv with
    | cons h1 h2 =>
      rename_i u us
      simp only [told] at h
      obtain ⟨x, h, hx⟩ := view_rd hM (ks := v.refs) (fun n hn => hn) h1 h
      have hF := Mem.frz_ok hM v.refs
      have gF := Mem.frz_goes hM v.refs
      have h' : told (M.frz v.refs).rows ms vs (fun r rows' => K (.val s x :: r) rows') = some r := by
        split at h
        · rename_i e
          have : (M.frz v.refs).rows = M.rows := by simp only [Mem.frz, Mem.to, e, freeze, rsets]
          rw [this]; exact h
        · exact h
      obtain ⟨vs', M', k1, k2, k3, k4, k5⟩ := told_sound hF (gF.vs hM h2) h'
      exact ⟨_, M', k1, k2, gF.trans k3, k4, .cons (k3.vr hF hx) k5⟩
  | .own e s :: ms, .nil :: vs, us, M, K, r, hM, hv, h => by
    cases hv with
    | cons h1 h2 =>
      simp only [told] at h
      obtain ⟨a1, a2, a3⟩ := push_ok hM e s
      obtain ⟨vs', M', k1, k2, k3, k4, k5⟩ := told_sound (M := M.to M.w (rapp M.rows [some ⟨0, false, true, .arr e s []⟩]) (setα M.α (rlen M.rows) (none, 0))) a1 (a2.vs hM h2) h
      simp only [VR, VRL] at h1
      subst h1
      exact ⟨_, M', k1, k2, a2.trans k3, k4, .cons (k3.vr a1 a3) k5⟩
  | .own e s :: ms, .own k ver :: vs, us, M, K, r, hM, hv, h => by
    cases hv with
    | cons h1 h2 =>
      simp only [told] at h
      split at h
      · obtain ⟨_, h⟩ := cnd_some h
        obtain ⟨vs', M', k1, k2, k3, k4, k5⟩ := told_sound hM h2 h
        exact ⟨_, M', k1, k2, k3, k4, .cons (k3.vr hM h1) k5⟩
      · cases h
  | .raw :: ms, v :: vs, us, M, K, r, hM, hv, h => by
    cases hv with
    | cons h1 h2 =>
      simp only [told] at h
      obtain ⟨vs', M', k1, k2, k3, k4, k5⟩ := told_sound hM h2 h
      exact ⟨_, M', k1, k2, k3, k4, .cons (k3.vr hM h1) k5⟩
  | [], _ :: _, _, _, _, _, _, _, h => by simp [told] at h
  | .val _ :: _, [], _, _, _, _, _, _, h => by simp [told] at h
  | .own _ _ :: _, [], _, _, _, _, _, _, h => by simp [told] at h
  | .raw :: _, [], _, _, _, _, _, _, h => by simp [told] at h
  | .own _ _ :: _, .undef :: _, _, _, _, _, _, _, h | .own _ _ :: _, .val _ _ :: _, _, _, _, _, _, _, h | .own _ _ :: _, .sub _ _ _ _ :: _, _, _, _, _, _, _, h | .own _ _ :: _, .ptr _ _ _ _ :: _, _, _, _, _, _, _, h
  | .own _ _ :: _, .loc _ _ _ :: _, _, _, _, _, _, _, h | .own _ _ :: _, .fn _ _ _ :: _, _, _, _, _, _, _, h | .own _ _ :: _, .agg _ :: _, _, _, _, _, _, _, h | .own _ _ :: _, .tup _ :: _, _, _, _, _, _, _, h
  | .own _ _ :: _, .lnil :: _, _, _, _, _, _, _, h | .own _ _ :: _, .lcons _ _ :: _, _, _, _, _, _, _, h => by simp [told] at h

end Go.Proofs.Ytcipegkeoheikaa.Dx
/- The end of a call: what its caller sees. -/
namespace Go.Proofs.Ytcipegkeoheikaa.Dx
open Go

theorem adds_pre : ∀ (l acc : List Nat), ∃ e, adds acc l = acc ++ e
  | [], acc => ⟨[], by simp [adds]⟩
  | n :: t, acc => by
    obtain ⟨e, he⟩ := adds_pre t (add1 acc n)
    have : ∃ e', add1 acc n = acc ++ e' := by
      unfold add1
      cases mem n acc with
      | true => exact ⟨[], by simp [cnd]⟩
      | false => exact ⟨[n], by simp [cnd, napp_eq]⟩
    obtain ⟨e', he'⟩ := this
    exact ⟨e' ++ e, by simp only [adds]; rw [he, he', List.append_assoc]⟩

theorem cloIn_pre (rows : List (Option Row)) : ∀ (l acc : List Nat), ∃ e, clo.cloIn rows l acc = acc ++ e
  | [], acc => ⟨[], by simp [clo.cloIn]⟩
  | n :: t, acc => by
    simp only [clo.cloIn]
    cases rget rows n with
    | none => exact cloIn_pre rows t acc
    | some r =>
      obtain ⟨e, he⟩ := cloIn_pre rows t (adds acc r.b.refs)
      obtain ⟨e', he'⟩ := adds_pre r.b.refs acc
      exact ⟨e' ++ e, by simp only; rw [he, he', List.append_assoc]⟩

theorem clo_pre (rows : List (Option Row)) : ∀ (n : Nat) (acc : List Nat), ∃ e, clo rows n acc = acc ++ e
  | 0, acc => ⟨[], by simp [clo]⟩
  | n + 1, acc => by
    obtain ⟨e, he⟩ := clo_pre rows n (clo.cloIn rows acc acc)
    obtain ⟨e', he'⟩ := cloIn_pre rows acc acc
    refine ⟨e' ++ e, ?_⟩
    show clo rows n (clo.cloIn rows acc acc) = _
    rw [he, he', List.append_assoc]

theorem finish_sound {R : Type} {w0 : World} {M0 M : Mem} {s : St} {rms : List RM} {vs : List V} {us : List Value} {K : List V → List (Option Row) → Option R} {r : R} (hM : MemOk w0 M) (hr : M.rows = s.rows) (hv : VS M vs us) (hent : EntR M0 M)
    (hm : ∀ j r, rget M0.rows j = some r → j < s.m) (h : finish rms s vs K = some r) :
    ∃ res out α', K res out = some r ∧ MemOk w0 (M.to M.w out α') ∧ VS (M.to M.w out α') res us ∧ EntR M0 (M.to M.w out α') ∧ ∀ j r, rget out j = some r → r.fz = false := by
  unfold finish at h
  rw [← hr] at h
  obtain ⟨vs', M', h, hM', hg, hw, hv'⟩ := told_sound hM hv h
  replace h := forceR_some h
  replace h := natsK_some h
  replace h := cnd_some h
  obtain ⟨hc, h⟩ := h
  simp only [Bool.and_eq_true] at hc
  replace h := forceL_some h
  replace h := forceR_some h
  generalize hids : clo M'.rows 4 (adds (upto s.m 0) (refsL vs')) = ids at hc h
  have hnd := nodupB_iff hc.2
  obtain ⟨hren, hok⟩ := ren_ok hM' hnd
  have e : M'.ren ids = M.to M.w (rowsAt M'.rows (to0 ids) ids) (M'.ren ids).α := by
    simp only [Mem.ren, Mem.to, hg.U, hg.B, hg.I, hw]
  have hid : ∀ j r, rget M0.rows j = some r → ids[j]? = some j := by
    intro j r hj
    obtain ⟨e1, he1⟩ := adds_pre (refsL vs') (upto s.m 0)
    obtain ⟨e2, he2⟩ := clo_pre M'.rows 4 (adds (upto s.m 0) (refsL vs'))
    rw [← hids, he2, he1, List.append_assoc, List.getElem?_append_left (by rw [upto_len]; exact hm j r hj), upto_get _ _ _ (hm j r hj)]
    simp
  have hent' := (hent.goes hg).ren hM' hnd hid
  have hres := remapVS hren hv' (.inl rfl)
  rw [e] at hok hent' hres
  refine ⟨_, _, _, h, hok, hres, hent', ?_⟩
  intro j r hj
  rw [rget_rowsAt] at hj
  cases hi : ids[j]? with
  | none => rw [hi] at hj; simp at hj
  | some k =>
    rw [hi, Option.bind_some] at hj
    obtain ⟨r0, h0, rfl⟩ := Option.map_eq_some_iff.1 hj
    obtain ⟨r1, h1, h2⟩ := allLive_mem hc.1 k (List.mem_of_getElem? hi)
    rw [h0] at h1
    obtain rfl := Option.some.inj h1
    exact h2

end Go.Proofs.Ytcipegkeoheikaa.Dx
/- Code hands on one outcome: regions and cuts. -/
namespace Go.Proofs.Ytcipegkeoheikaa.Dx
open Go

variable {R : Type}

theorem forceE_det : ∀ (l : List (Nat × V)), Det (fun K : List (Nat × V) → Option R => forceE l K)
  | [] => Det.pure _
  | (d, v) :: t => Det.bind (h := fun v K => forceE t fun t => K ((d, v) :: t)) (forceV_det v) fun v => Det.bind (h := fun t K => K ((d, v) :: t)) (forceE_det t) fun t => Det.pure _

theorem coerceK_det {co : List (Nat × TypeId × Sh)} : ∀ (l : List (Nat × V)) (rows : List (Option Row)), Det (fun K : List (Nat × V) × List (Option Row) → Option R => coerceK co l rows fun a b => K (a, b))
  | [], rows => Det.pure _
  | (t, v) :: r, rows => by
    simp only [coerceK]
    split
    · rename_i e s _
      exact Det.bind (g := fun K : Nat → Option R => natK (rlen rows) K) (h := fun n K => coerceK co r (rapp rows [some ⟨0, false, true, .arr e s []⟩]) fun en rows' => K ((t, .own n 0) :: en, rows')) (natK_det _) fun n =>
        Det.bind (g := fun K : List (Nat × V) × List (Option Row) → Option R => coerceK co r (rapp rows [some ⟨0, false, true, .arr e s []⟩]) fun a b => K (a, b)) (h := fun p K => K ((t, .own n 0) :: p.1, p.2)) (coerceK_det r _) fun p => Det.pure _
    · exact Det.bind (g := fun K : List (Nat × V) × List (Option Row) → Option R => coerceK co r rows fun a b => K (a, b)) (h := fun p K => K ((t, _) :: p.1, p.2)) (coerceK_det r _) fun p => Det.pure _

theorem canonK_det (live : List Nat) (co : List (Nat × TypeId × Sh)) (s : St) : Det (fun K : St → Option R => canonK live co s K) := by
  unfold canonK
  refine Det.bind (g := fun K => forceE (keepEnv s.env live) K) (forceE_det _) fun env => ?_
  refine Det.bind (g := fun K : List (Nat × V) × List (Option Row) → Option R => coerceK co env s.rows fun a b => K (a, b)) (h := fun p K => natsK (clo p.2 4 (adds (upto s.m 0) (refsE p.1))) fun ids0 =>
    natsK (napp (upto s.m 0) (liveIds p.2 (ndrop s.m ids0))) fun ids =>
      cnd (nodupB ids) (forceE (remapE p.2 (to0 ids) p.1) fun env' => forceR (rowsAt p.2 (to0 ids) ids) fun rows' => K (St.mk env' rows' s.m)) none) (coerceK_det _ _) fun p => ?_
  refine Det.bind (g := fun K => natsK (clo p.2 4 (adds (upto s.m 0) (refsE p.1))) K) (natsK_det _) fun ids0 => ?_
  refine Det.bind (g := fun K => natsK (napp (upto s.m 0) (liveIds p.2 (ndrop s.m ids0))) K) (natsK_det _) fun ids => ?_
  refine Det.cnd ?_
  refine Det.bind (g := fun K => forceE (remapE p.2 (to0 ids) p.1) K) (forceE_det _) fun env' => ?_
  exact Det.bind (g := fun K => forceR (rowsAt p.2 (to0 ids) ids) K) (h := fun rows' K => K (St.mk env' rows' s.m)) (forceR_det _) fun rows' => Det.pure _

theorem opsK_det {X : Ctx R} (hC : DetC X) {all : List Oper} {free : List (Nat × Nat)} : ∀ (ops : List Oper) (i : Nat) (acc : List Trace) (nid : Nat) (env : List (Nat × V)) (rows : List (Option Row)),
    Det (fun K : List (Nat × V) × List (Option Row) → Option R => opsK X all free ops i acc nid env rows fun a b => K (a, b))
  | [], i, acc, nid, env, rows => Det.pure _
  | o :: t, i, acc, nid, env, rows => by
    have skip : ∀ env1, Det (fun K : List (Nat × V) × List (Option Row) → Option R => opsK X all free t (i + 1) acc (nid + slotsOf o) (putE env1 o.dst (.tup .lnil)) rows fun a b => K (a, b)) := fun env1 => opsK_det hC t _ _ _ _ _
    have on : ∀ env1 v acc' ups, Det (fun K : List (Nat × V) × List (Option Row) → Option R => match ups with
          | [] => opsK X all free t (i + 1) acc' (nid + slotsOf o) (putE env1 o.dst v) rows fun a b => K (a, b)
          | ups => cnd (fresh rows nid (slotsOf o) ups) (forceR (rsets rows ups) fun rows' => forceV v fun v => opsK X all free t (i + 1) acc' (nid + slotsOf o) (putE env1 o.dst v) rows' fun a b => K (a, b)) none) := by
      intro env1 v acc' ups
      cases ups with
      | nil => exact opsK_det hC t _ _ _ _ _
      | cons u us =>
        refine Det.cnd ?_
        refine Det.bind (g := fun K => forceR (rsets rows (u :: us)) K) (forceR_det _) fun rows' => ?_
        exact Det.bind (g := fun K => forceV v K) (forceV_det _) fun v' => opsK_det hC t _ _ _ _ _
    have go : ∀ env1, Det (fun K : List (Nat × V) × List (Option Row) → Option R => effK X env1 rows nid o fun v ups =>
        let on (acc : List Trace) : Option R :=
          match ups with
          | [] => opsK X all free t (i + 1) acc (nid + slotsOf o) (putE env1 o.dst v) rows fun a b => K (a, b)
          | ups => cnd (fresh rows nid (slotsOf o) ups) (forceR (rsets rows ups) fun rows' => forceV v fun v => opsK X all free t (i + 1) acc (nid + slotsOf o) (putE env1 o.dst v) rows' fun a b => K (a, b)) none
        cnd (inFree i free) (natsK (foot env1 rows o) fun F => natsK (upKeys ups) fun W => cnd (freeOk free i F W acc) (on (⟨i, F, W⟩ :: acc)) none) (on acc)) := by
      intro env1
      refine Det.bind (g := fun K : V × List (Nat × Row) → Option R => effK X env1 rows nid o fun v u => K (v, u)) (h := fun p K =>
        let on (acc : List Trace) : Option R :=
          match p.2 with
          | [] => opsK X all free t (i + 1) acc (nid + slotsOf o) (putE env1 o.dst p.1) rows fun a b => K (a, b)
          | ups => cnd (fresh rows nid (slotsOf o) ups) (forceR (rsets rows ups) fun rows' => forceV p.1 fun v => opsK X all free t (i + 1) acc (nid + slotsOf o) (putE env1 o.dst v) rows' fun a b => K (a, b)) none
        cnd (inFree i free) (natsK (foot env1 rows o) fun F => natsK (upKeys p.2) fun W => cnd (freeOk free i F W acc) (on (⟨i, F, W⟩ :: acc)) none) (on acc)) (effK_det hC) fun p => ?_
      obtain ⟨v, ups⟩ := p
      refine Det.cnd2 ?_ (on env1 v acc ups)
      refine Det.bind (g := fun K => natsK (foot env1 rows o) K) (natsK_det _) fun F => ?_
      refine Det.bind (g := fun K => natsK (upKeys ups) K) (natsK_det _) fun W => ?_
      exact Det.cnd (on env1 v _ ups)
    unfold opsK
    simp only
    cases o.guard with
    | none => exact go env
    | some gw =>
      obtain ⟨g, want⟩ := gw
      simp only
      cases dstOf all g with
      | none => exact Det.none
      | some d =>
        simp only
        split
        · rename_i b hb
          exact Det.cond2 (Det.cnd2 (go _) (skip _)) (Det.cnd2 (skip _) (go _))
        · exact skip env
        · exact Det.none

theorem regionK_det {X : Ctx R} (hC : DetC X) (ops : Array Oper) (free : List (Nat × Nat)) (s : St) : Det (fun K : St → Option R => regionK X ops free s K) := by
  unfold regionK
  exact Det.bind (g := fun K : List (Nat × V) × List (Option Row) → Option R => opsK X ops.toList free ops.toList 0 [] (rlen s.rows) s.env (rapp s.rows (nones (slots ops.toList))) fun a b => K (a, b))
    (h := fun p K => K { s with env := p.1, rows := p.2 }) (opsK_det hC _ _ _ _ _ _) fun p => Det.pure _

theorem resV_det {ty : TypeId → TyD} (s : St) : ∀ (l : List ResultVar), Det (fun K : List V → Option R => resV s ty l K)
  | [] => Det.pure _
  | .tmp t :: r => Det.bind (h := fun vs K => K (eget s.env t :: vs)) (resV_det s r) fun vs => Det.pure _
  | .cell a t :: r => Det.cnd (Det.bind (g := fun K => loadOp s.rows (ty t) (eget s.env a) K) (h := fun v K => resV s ty r fun vs => K (v :: vs)) loadOp_det fun v =>
      Det.bind (h := fun vs K => K (v :: vs)) (resV_det s r) fun vs => Det.pure _)

theorem told_det : ∀ (ms : List RM) (vs : List V) (rows : List (Option Row)), Det (fun K : List V × List (Option Row) → Option R => told rows ms vs fun a b => K (a, b))
  | [], [], rows => Det.pure _
  | .val s :: ms, v :: vs, rows => by
    simp only [told]
    refine Det.bind (g := fun K : s.T → Option R => view rows s v K) view_det fun x => ?_
    split
    · exact Det.bind (g := fun K : List V × List (Option Row) → Option R => told rows ms vs fun a b => K (a, b)) (h := fun p K => K (V.val s x :: p.1, p.2)) (told_det ms vs rows) fun p => Det.pure _
    · exact Det.bind (g := fun K : List V × List (Option Row) → Option R => told _ ms vs fun a b => K (a, b)) (h := fun p K => K (V.val s x :: p.1, p.2)) (told_det ms vs _) fun p => Det.pure _
  | .own e s :: ms, .nil :: vs, rows => by
    simp only [told]
    exact Det.bind (g := fun K : List V × List (Option Row) → Option R => told _ ms vs fun a b => K (a, b)) (h := fun p K => K (V.own (rlen rows) 0 :: p.1, p.2)) (told_det ms vs _) fun p => Det.pure _
  | .own e s :: ms, .own k v :: vs, rows => by
    simp only [told]
    cases rget rows k with
    | none => exact Det.none
    | some r =>
      refine Det.cnd ?_
      exact Det.bind (g := fun K : List V × List (Option Row) → Option R => told _ ms vs fun a b => K (a, b)) (h := fun p K => K (V.own k v :: p.1, p.2)) (told_det ms vs _) fun p => Det.pure _
  | .raw :: ms, v :: vs, rows => by
    simp only [told]
    exact Det.bind (g := fun K : List V × List (Option Row) → Option R => told _ ms vs fun a b => K (a, b)) (h := fun p K => K (v :: p.1, p.2)) (told_det ms vs _) fun p => Det.pure _
  | [], _ :: _, _ => Det.none
  | .val _ :: _, [], _ => Det.none
  | .own _ _ :: _, [], _ => Det.none
  | .raw :: _, [], _ => Det.none
  | .own _ _ :: _, .undef :: _, _ => Det.none
  | .own _ _ :: _, .val _ _ :: _, _ => Det.none
  | .own _ _ :: _, .sub _ _ _ _ :: _, _ => Det.none
  | .own _ _ :: _, .ptr _ _ _ _ :: _, _ => Det.none
  | .own _ _ :: _, .loc _ _ _ :: _, _ => Det.none
  | .own _ _ :: _, .fn _ _ _ :: _, _ => Det.none
  | .own _ _ :: _, .agg _ :: _, _ => Det.none
  | .own _ _ :: _, .tup _ :: _, _ => Det.none
  | .own _ _ :: _, .lnil :: _, _ => Det.none
  | .own _ _ :: _, .lcons _ _ :: _, _ => Det.none

theorem finish_det (rms : List RM) (s : St) (vs : List V) : Det (fun K : List V × List (Option Row) → Option R => finish rms s vs fun a b => K (a, b)) := by
  unfold finish
  refine Det.bind (g := fun K : List V × List (Option Row) → Option R => told s.rows rms vs fun a b => K (a, b)) (h := fun p K => forceR p.2 fun rows =>
    natsK (clo rows 4 (adds (upto s.m 0) (refsL p.1))) fun ids0 =>
      cnd (allLive rows ids0 && nodupB ids0) (forceL (remapL rows (to0 ids0) p.1) fun vs' => forceR (rowsAt rows (to0 ids0) ids0) fun rows' => K (vs', rows')) none) (told_det _ _ _) fun p => ?_
  refine Det.bind (g := fun K => forceR p.2 K) (forceR_det _) fun rows => ?_
  refine Det.bind (g := fun K => natsK (clo rows 4 (adds (upto s.m 0) (refsL p.1))) K) (natsK_det _) fun ids0 => ?_
  refine Det.cnd ?_
  refine Det.bind (g := fun K => forceL (remapL rows (to0 ids0) p.1) K) (forceL_det _) fun vs' => ?_
  exact Det.bind (g := fun K => forceR (rowsAt rows (to0 ids0) ids0) K) (h := fun rows' K => K (vs', rows')) (forceR_det _) fun rows' => Det.pure _

theorem krFn_det {X : Ctx R} (res : List ResultVar) (rms : List RM) (s : St) : Det (fun K : List V × List (Option Row) → Option R => krFn X res rms (fun a b => K (a, b)) s) := by
  unfold krFn
  exact Det.bind (g := fun K => resV s X.ty res K) (resV_det s res) fun vs => finish_det rms s vs

end Go.Proofs.Ytcipegkeoheikaa.Dx
/- Code is sound: what the evaluator says of it holds in the model. -/
namespace Go.Proofs.Ytcipegkeoheikaa.Dx
open Go

variable {R : Type} {P : Program}

/-- Where code goes on: one of its continuations, in a state. -/
inductive Out where
  | kn (s : St)
  | ex (id : Nat) (s : St)
  | kr (s : St)

def Out.go (o : Out) (kn : St → Option R) (ex : List (Nat × (St → Option R))) (kr : St → Option R) : Option R :=
  match o with
  | .kn s => kn s
  | .ex id s => exitK ex id s
  | .kr s => kr s

def Out.st : Out → St
  | .kn s => s
  | .ex _ s => s
  | .kr s => s

def Out.e : Out → Exit
  | .kn _ => .normal
  | .ex id _ => .exit id
  | .kr _ => .ret

def Post (w0 : World) (M0 : Mem) (ds : List Deferred) (n : Nat) (o : Out) (e : Exit) (a : Act) (w : World) : Prop := e = o.e ∧ Rel w0 M0 ds n o.st.env o.st.rows a w

/-- The rows that came along have numbers below m. -/
def Low (M0 : Mem) (m : Nat) : Prop := ∀ j r, rget M0.rows j = some r → j < m

abbrev Conts (R : Type) := (St → Option R) → List (Nat × (St → Option R)) → (St → Option R) → Option R

/-- What is told of code in a state holds of it. -/
def CodeOk (P : Program) (n : Nat) (c : Code) (h : Conts R) (s : St) : Prop :=
  ∀ kn ex kr r, h kn ex kr = some r → ∃ o : Out, (∀ kn ex kr, h kn ex kr = o.go kn ex kr) ∧ o.st.m = s.m ∧
    ∀ w0 M0 ds a w, Low M0 s.m → Rel w0 M0 ds n s.env s.rows a w → c.wp P (Post w0 M0 ds n o) a w

/-- A cut. -/
theorem canon_step {live : List Nat} {co : List (Nat × TypeId × Sh)} {s : St} {K : St → Option R} {r : R} (h : canonK live co s K = some r) :
    ∃ s2, K s2 = some r ∧ (∀ K' : St → Option R, canonK live co s K' = K' s2) ∧ s2.m = s.m ∧ ∀ w0 M0 ds n a w, Low M0 s.m → Rel w0 M0 ds n s.env s.rows a w → Rel w0 M0 ds n s2.env s2.rows a w := by
  obtain ⟨s2, h1, h2⟩ := (canonK_det live co s).one h
  classical
  let T : St → Option R := fun s' => if s' = s2 then some r else none
  have hT : canonK live co s T = some r := by rw [h2]; simp only [T, if_true]
  have hm : s2.m = s.m := by
    have : ∀ (K' : St → Option R), (∀ s', K' s' = some r → s'.m = s.m) → canonK live co s K' = some r → s2.m = s.m := fun K' hK hc => hK s2 ((h2 K').symm.trans hc)
    refine this (fun s' => if s'.m = s.m then some r else none) (fun s' hs => by split at hs <;> simp_all) ?_
    -- the number is kept whatever comes
    clear this hT h1 h
    have key : ∀ (K1 : St → Option R) (K2 : St → Option R), (∀ env rows, K1 ⟨env, rows, s.m⟩ = K2 ⟨env, rows, s.m⟩) → canonK live co s K1 = canonK live co s K2 := by
      intro K1 K2 hk
      unfold canonK
      simp only [hk]
    have e := key (fun s' => if s'.m = s.m then some r else none) (fun _ => some r) (fun env rows => by simp)
    rw [e, h2]
  refine ⟨s2, h1, h2, hm, ?_⟩
  rintro w0 M0 ds n a w hlow ⟨M, g1, g2, g3, g4, g5, g6, g7, g8, g9, g10⟩
  obtain ⟨s', M', k1, k2, k3, k4, k5, k6, k7, k8, k9, k10⟩ := canon_sound g1 g2 g8 g7 hlow hT
  have e : s' = s2 := by
    simp only [T] at k1
    split at k1
    · assumption
    · cases k1
  subst e
  exact ⟨M', k2, k3, k4.trans g3, k5.trans g4, k6.trans g5, k7.trans g6, k9, k8, g9, g10⟩

/-- A region. -/
theorem region_step {X : Ctx R} (hX : Snd P X) (hD : DetC X) (hm : P.follows .mixedOrders = true) {id : Nat} {ops : Array Oper} {d : Bool} {free : List (Nat × Nat)} {s : St} {K : St → Option R} {r : R} {n : Nat}
    (hd : ∀ o, o ∈ ops.toList → ∀ t, o.dst = some t → t < n) (hdr : d = true → drawOk ops.toList free = true) (h : regionK X ops free s K = some r) :
    ∃ s2, K s2 = some r ∧ (∀ K' : St → Option R, regionK X ops free s K' = K' s2) ∧ s2.m = s.m ∧
      ∀ w0 M0 ds a w (Q : Exit → Act → World → Prop), Rel w0 M0 ds n s.env s.rows a w → (∀ a' w', Rel w0 M0 ds n s2.env s2.rows a' w' → Q .normal a' w') → (Code.region id ops d).wp P Q a w := by
  obtain ⟨s2, h1, h2⟩ := (regionK_det hD ops free s).one h
  classical
  let T : St → Option R := fun s' => if s' = s2 then some r else none
  have hT : regionK X ops free s T = some r := by rw [h2]; simp only [T, if_true]
  have inv : ∀ {env' rows'}, T { s with env := env', rows := rows' } = some r → s2 = { s with env := env', rows := rows' } := by
    intro env' rows' hh
    simp only [T] at hh
    split at hh
    · rename_i e; exact e.symm
    · cases hh
  have hm2 : s2.m = s.m := by
    have e : regionK X ops free s (fun s' => if s'.m = s.m then some r else none) = regionK X ops free s (fun _ => some r) := by
      unfold regionK
      simp only [if_true]
    rw [h2, h2] at e
    by_cases hh : s2.m = s.m
    · exact hh
    · simp [hh] at e
  refine ⟨s2, h1, h2, hm2, ?_⟩
  intro w0 M0 ds a w Q hr hq
  have fin : ∀ a' w' env' rows', Rel w0 M0 ds n env' rows' a' w' → T { s with env := env', rows := rows' } = some r → Q .normal a' w' := by
    intro a' w' env' rows' hr' ht
    have e := inv ht
    refine hq a' w' ?_
    rw [e]; exact hr'
  cases d with
  | false => exact region_text hX hT hd hr fin
  | true => exact region_any hX hm hT hd (hdr rfl) hr fin

/-! ## the check of a text -/

def dstB (n : Nat) : List Oper → Bool
  | [] => true
  | o :: t => (match o.dst with | some d => Nat.blt d n | none => true) && dstB n t

theorem dstB_spec {n : Nat} : ∀ {l : List Oper}, dstB n l = true → ∀ o, o ∈ l → ∀ t, o.dst = some t → t < n
  | [], _, o, ho, _, _ => by simp at ho
  | a :: l, h, o, ho, t, ht => by
    simp only [dstB, Bool.and_eq_true] at h
    rcases List.mem_cons.1 ho with rfl | ho
    · rw [ht] at h
      exact Nat.le_of_ble_eq_true h.1
    · exact dstB_spec h.2 o ho t ht

def eqN : List Nat → List Nat → Bool
  | [], [] => true
  | a :: s, b :: t => Nat.beq a b && eqN s t
  | _, _ => false

theorem eqN_spec : ∀ {a b : List Nat}, eqN a b = true → a = b
  | [], [], _ => rfl
  | a :: s, b :: t, h => by
    simp only [eqN, Bool.and_eq_true] at h
    rw [Nat.eq_of_beq_eq_true h.1, eqN_spec h.2]
  | [], _ :: _, h => by simp [eqN] at h
  | _ :: _, [], h => by simp [eqN] at h

def tget : List (Nat × List Nat) → Nat → Option (List Nat)
  | [], _ => none
  | (j, p) :: t, i => cnd (Nat.beq j i) (some p) (tget t i)

def atB (tbl : List (Nat × List Nat)) (i : Nat) (p : List Nat) : Bool := match tget tbl i with | some q => eqN q p | none => false

/-- Temporaries are below n, drawn regions are sound, loops and cuts stand in the table with their places. -/
def checkB (tbl : List (Nat × List Nat)) (n : Nat) : Code → AC → List Nat → Bool
  | .region _ ops d, .region _ _ free, _ => dstB n ops.toList && (!d || drawOk ops.toList free)
  | .seq a b, .seq x y, p => checkB tbl n a x (napp p [0]) && checkB tbl n b y (napp p [1])
  | .seq a _, .cut i _ _ x _, p => checkB tbl n a x (napp p [0]) && atB tbl i (napp p [1])
  | .cond _ a b, .cond x y, p => checkB tbl n a x (napp p [0]) && checkB tbl n b y (napp p [1])
  | .block _ c, .block _ _ x, p => checkB tbl n c x (napp p [0])
  | .loop _, .loop i _ _, p => atB tbl i p
  | .seq _ _, .name i _ _, p => atB tbl i p
  | .cond _ _ _, .name i _ _, p => atB tbl i p
  | .block _ _, .name i _ _, p => atB tbl i p
  | _, _, _ => true

theorem subC_app : ∀ (p : List Nat) (d : Nat) (c : Code), subC (napp p [d]) c = subC [d] (subC p c)
  | [], _, _ => rfl
  | e :: r, d, .seq a b => subC_app r d (cnd (Nat.beq e 0) a b)
  | e :: r, d, .cond _ a b => subC_app r d (cnd (Nat.beq e 0) a b)
  | _ :: r, d, .block _ a => subC_app r d a
  | _ :: r, d, .loop a => subC_app r d a
  | e :: r, d, .skip => by cases r <;> rfl
  | e :: r, d, .region _ _ _ => by cases r <;> rfl
  | e :: r, d, .exit _ => by cases r <;> rfl
  | e :: r, d, .ret => by cases r <;> rfl
  | e :: r, d, .goto _ => by cases r <;> rfl
  | e :: r, d, .label _ => by cases r <;> rfl
  | e :: r, d, .scope _ => by cases r <;> rfl
  | e :: r, d, .rangeFunc _ _ _ _ => by cases r <;> rfl
  | e :: r, d, .refuse _ => by cases r <;> rfl

/-- A loop, or what stands behind a cut, is told soundly. -/
def LOk (P : Program) (X : Ctx R) (n i : Nat) (c : Code) : Prop := ∀ s, CodeOk P n c (fun kn ex kr => X.L i s kn ex kr) s

def TblOk (P : Program) (X : Ctx R) (n : Nat) (body : Code) (tbl : List (Nat × List Nat)) : Prop := ∀ i q, tget tbl i = some q → LOk P X n i (subC q body)

theorem TblOk.nil {X : Ctx R} {n : Nat} {body : Code} : TblOk P X n body [] := fun i q h => by simp [tget] at h

theorem TblOk.cons {X : Ctx R} {n : Nat} {body : Code} {tbl : List (Nat × List Nat)} {i : Nat} {p : List Nat} (h : LOk P X n i (subC p body)) (ht : TblOk P X n body tbl) : TblOk P X n body ((i, p) :: tbl) := by
  intro j q hq
  simp only [tget] at hq
  cases hb : Nat.beq i j with
  | true =>
    have := Nat.eq_of_beq_eq_true hb
    subst this
    rw [hb] at hq
    simp only [cnd, Option.some.injEq] at hq
    subst hq
    exact h
  | false =>
    rw [hb] at hq
    exact ht j q hq

theorem atB_spec {X : Ctx R} {n : Nat} {body : Code} {tbl : List (Nat × List Nat)} (ht : TblOk P X n body tbl) {i : Nat} {p : List Nat} (h : atB tbl i p = true) : LOk P X n i (subC p body) := by
  unfold atB at h
  split at h
  · rename_i q hq
    rw [← eqN_spec h]
    exact ht i q hq
  · cases h

theorem Low.m {M0 : Mem} {m m' : Nat} (h : Low M0 m) (e : m' = m) : Low M0 m' := by rw [e]; exact h

/-- One part after another. -/
theorem seq_ok {n : Nat} {a b : Code} {h1 : Conts R} {h2 : St → Conts R} {s : St} (ha : CodeOk P n a h1 s) (hb : ∀ s', CodeOk P n b (h2 s') s') :
    CodeOk P n (.seq a b) (fun kn ex kr => h1 (fun s' => h2 s' kn ex kr) ex kr) s := by
  intro kn ex kr r h
  obtain ⟨o1, e1, m1, w1⟩ := ha _ ex kr r h
  cases o1 with
  | kn s1 =>
    have h' := (e1 _ _ _).symm.trans h
    obtain ⟨o2, e2, m2, w2⟩ := hb s1 kn ex kr r h'
    refine ⟨o2, fun kn ex kr => (e1 _ _ _).trans (e2 _ _ _), m2.trans m1, fun w0 M0 ds a' w' hl hr => wp_seq (wp_mono (w1 w0 M0 ds a' w' hl hr) ?_)⟩
    rintro e a2 w2' ⟨rfl, hr2⟩
    exact w2 w0 M0 ds a2 w2' (hl.m m1) hr2
  | ex id s1 =>
    refine ⟨.ex id s1, fun kn ex kr => e1 _ _ _, m1, fun w0 M0 ds a' w' hl hr => wp_seq (wp_mono (w1 w0 M0 ds a' w' hl hr) ?_)⟩
    rintro e a2 w2 ⟨rfl, hr2⟩
    exact ⟨rfl, hr2⟩
  | kr s1 =>
    refine ⟨.kr s1, fun kn ex kr => e1 _ _ _, m1, fun w0 M0 ds a' w' hl hr => wp_seq (wp_mono (w1 w0 M0 ds a' w' hl hr) ?_)⟩
    rintro e a2 w2 ⟨rfl, hr2⟩
    exact ⟨rfl, hr2⟩

/-- A cut ahead of code. -/
theorem cut_ok {n : Nat} {c : Code} {h : St → Conts R} {live : List Nat} {co : List (Nat × TypeId × Sh)} {s : St} (hc : ∀ s', CodeOk P n c (h s') s') : CodeOk P n c (fun kn ex kr => canonK live co s fun s' => h s' kn ex kr) s := by
  intro kn ex kr r hh
  obtain ⟨s2, h1, e1, m1, r1⟩ := canon_step hh
  obtain ⟨o, e2, m2, w2⟩ := hc s2 kn ex kr r h1
  exact ⟨o, fun kn ex kr => (e1 _).trans (e2 _ _ _), m2.trans m1, fun w0 M0 ds a w hl hr => w2 w0 M0 ds a w (hl.m m1) (r1 w0 M0 ds n a w hl hr)⟩

/-- A cut behind code, where it goes on. -/
theorem cutN_ok {n : Nat} {c : Code} {h : Conts R} {live : List Nat} {co : List (Nat × TypeId × Sh)} {s : St} (hc : CodeOk P n c h s) : CodeOk P n c (fun kn ex kr => h (fun s' => canonK live co s' kn) ex kr) s := by
  intro kn ex kr r hh
  obtain ⟨o, e1, m1, w1⟩ := hc _ ex kr r hh
  cases o with
  | kn s1 =>
    have h' := (e1 _ _ _).symm.trans hh
    obtain ⟨s2, _, e2, m2, r2⟩ := canon_step h'
    refine ⟨.kn s2, fun kn ex kr => (e1 _ _ _).trans (e2 _), m2.trans m1, fun w0 M0 ds a w hl hr => wp_mono (w1 w0 M0 ds a w hl hr) ?_⟩
    rintro e a2 w2 ⟨rfl, hr2⟩
    exact ⟨rfl, r2 w0 M0 ds n a2 w2 (hl.m m1) hr2⟩
  | ex id s1 => exact ⟨.ex id s1, fun kn ex kr => e1 _ _ _, m1, w1⟩
  | kr s1 => exact ⟨.kr s1, fun kn ex kr => e1 _ _ _, m1, w1⟩

theorem ev_ok {X : Ctx R} (hX : Snd P X) (hD : DetC X) (hm : P.follows .mixedOrders = true) {n : Nat} {body : Code} {tbl : List (Nat × List Nat)} (ht : TblOk P X n body tbl) :
    ∀ (c : Code) (ac : AC) (p : List Nat), subC p body = c → checkB tbl n c ac p = true → ∀ s, CodeOk P n c (fun kn ex kr => ev X c ac kn ex kr s) s := by
  intro c
  induction c with
  | skip =>
    intro ac p _ _ s kn ex kr r h
    cases ac with
    | skip => exact ⟨.kn s, fun _ _ _ => rfl, rfl, fun w0 M0 ds a w hl hr => wp_skip ⟨rfl, hr⟩⟩
    | _ => simp [ev] at h
  | region id ops d =>
    intro ac p _ hc s kn ex kr r h
    cases ac with
    | region live co free =>
      simp only [checkB, Bool.and_eq_true, Bool.or_eq_true, Bool.not_eq_true'] at hc
      simp only [ev] at h
      have hdr : d = true → drawOk ops.toList free = true := fun hd => hc.2.resolve_left (by rw [hd]; simp)
      obtain ⟨s1, h1, e1, m1, w1⟩ := region_step hX hD hm (d := d) (id := id) (n := n) (dstB_spec hc.1) hdr h
      obtain ⟨s2, _, e2, m2, r2⟩ := canon_step h1
      refine ⟨.kn s2, fun kn ex kr => ?_, m2.trans m1, fun w0 M0 ds a w hl hr => w1 w0 M0 ds a w _ hr fun a' w' hr' => ⟨rfl, r2 w0 M0 ds n a' w' (hl.m m1) hr'⟩⟩
      simp only [ev]
      exact (e1 _).trans (e2 _)
    | _ => simp [ev] at h
  | seq a b iha ihb =>
    intro ac p hp hc s
    have p0 : subC (napp p [0]) body = a := by rw [subC_app, hp]; rfl
    have p1 : subC (napp p [1]) body = b := by rw [subC_app, hp]; rfl
    cases ac with
    | seq x y =>
      simp only [checkB, Bool.and_eq_true] at hc
      exact seq_ok (h1 := fun kn ex kr => ev X a x kn ex kr s) (h2 := fun s' kn ex kr => ev X b y kn ex kr s') (iha x _ p0 hc.1 s) (ihb y _ p1 hc.2)
    | cut i live co x out =>
      simp only [checkB, Bool.and_eq_true] at hc
      have hL := atB_spec ht hc.2
      rw [p1] at hL
      exact seq_ok (h1 := fun kn ex kr => ev X a x kn ex kr s) (h2 := fun s' kn ex kr => canonK live co s' fun s'' => X.L i s'' kn ex kr) (iha x _ p0 hc.1 s) fun s' => cut_ok hL
    | name i live co =>
      simp only [checkB] at hc
      have hL := atB_spec ht hc
      rw [hp] at hL
      exact cut_ok (h := fun s' kn ex kr => X.L i s' kn ex kr) hL
    | _ => intro kn ex kr r h; simp [ev] at h
  | cond c a b iha ihb =>
    intro ac p hp hc s
    have p0 : subC (napp p [0]) body = a := by rw [subC_app, hp]; rfl
    have p1 : subC (napp p [1]) body = b := by rw [subC_app, hp]; rfl
    cases ac with
    | name i live co =>
      simp only [checkB] at hc
      have hL := atB_spec ht hc
      rw [hp] at hL
      exact cut_ok (h := fun s' kn ex kr => X.L i s' kn ex kr) hL
    | cond x y =>
      intro kn ex kr r h
      simp only [checkB, Bool.and_eq_true] at hc
      simp only [ev] at h ⊢
      obtain ⟨t, ht, h⟩ := asSh_some h
      have hev : ∀ w0 M0 ds a w, Rel w0 M0 ds n s.env s.rows a w → a.eval c = .bool t := by
        rintro w0 M0 ds a w ⟨M, g1, g2, g3, g4, g5, g6, g7, g8, g9, g10⟩
        have := VR.evalO g8 c
        rw [ht] at this
        exact VR.val_bool this
      have has : ∀ (K : Bool → Option R), asSh .bool (evalO s.env c) K = K t := by
        intro K; rw [ht]; simp [asSh]
      cases t with
      | true =>
        obtain ⟨o, e1, m1, w1⟩ := iha x _ p0 hc.1 s kn ex kr r h
        exact ⟨o, fun kn ex kr => (has _).trans (e1 _ _ _), m1, fun w0 M0 ds a w hl hr => wp_cond_true (hev w0 M0 ds a w hr) (w1 w0 M0 ds a w hl hr)⟩
      | false =>
        obtain ⟨o, e1, m1, w1⟩ := ihb y _ p1 hc.2 s kn ex kr r h
        exact ⟨o, fun kn ex kr => (has _).trans (e1 _ _ _), m1, fun w0 M0 ds a w hl hr => wp_cond_false (hev w0 M0 ds a w hr) (w1 w0 M0 ds a w hl hr)⟩
    | _ => intro kn ex kr r h; simp [ev] at h
  | block id c ih =>
    intro ac p hp hc s
    have p0 : subC (napp p [0]) body = c := by rw [subC_app, hp]; rfl
    cases ac with
    | block live co x =>
      simp only [checkB] at hc
      intro kn ex kr r h
      simp only [ev] at h ⊢
      obtain ⟨o, e1, m1, w1⟩ := ih x _ p0 hc s _ _ kr r h
      have h' := (e1 _ _ _).symm.trans h
      cases o with
      | kn s1 =>
        obtain ⟨s2, _, e2, m2, r2⟩ := canon_step h'
        refine ⟨.kn s2, fun kn ex kr => (e1 _ _ _).trans (e2 _), m2.trans m1, fun w0 M0 ds a w hl hr => wp_block (wp_mono (w1 w0 M0 ds a w hl hr) ?_)⟩
        rintro e a2 w2 ⟨rfl, hr2⟩
        exact ⟨rfl, r2 w0 M0 ds n a2 w2 (hl.m m1) hr2⟩
      | ex id' s1 =>
        simp only [Out.go, exitK] at h'
        cases hb : Nat.beq id id' with
        | true =>
          have := Nat.eq_of_beq_eq_true hb
          subst this
          refine ⟨.kn s1, fun kn ex kr => (e1 _ _ _).trans (by simp only [Out.go, exitK, hb, cnd]), m1, fun w0 M0 ds a w hl hr => wp_block (wp_mono (w1 w0 M0 ds a w hl hr) ?_)⟩
          rintro e a2 w2 ⟨rfl, hr2⟩
          simp only [Out.e, Exit.inBlock, if_true]
          exact ⟨rfl, hr2⟩
        | false =>
          refine ⟨.ex id' s1, fun kn ex kr => (e1 _ _ _).trans (by simp only [Out.go, exitK, hb, cnd]), m1, fun w0 M0 ds a w hl hr => wp_block (wp_mono (w1 w0 M0 ds a w hl hr) ?_)⟩
          rintro e a2 w2 ⟨rfl, hr2⟩
          have hne : ¬ id' = id := fun e => by rw [e, Nat.beq_refl] at hb; cases hb
          simp only [Out.e, Exit.inBlock, hne, if_false]
          exact ⟨rfl, hr2⟩
      | kr s1 =>
        refine ⟨.kr s1, fun kn ex kr => e1 _ _ _, m1, fun w0 M0 ds a w hl hr => wp_block (wp_mono (w1 w0 M0 ds a w hl hr) ?_)⟩
        rintro e a2 w2 ⟨rfl, hr2⟩
        exact ⟨rfl, hr2⟩
    | name i live co =>
      simp only [checkB] at hc
      have hL := atB_spec ht hc
      rw [hp] at hL
      exact cut_ok (h := fun s' kn ex kr => X.L i s' kn ex kr) hL
    | _ => intro kn ex kr r h; simp [ev] at h
  | loop c ih =>
    intro ac p hp hc s
    cases ac with
    | loop i live co =>
      simp only [checkB] at hc
      have hL := atB_spec ht hc
      rw [hp] at hL
      exact cut_ok (h := fun s' kn ex kr => X.L i s' kn ex kr) hL
    | _ => intro kn ex kr r h; simp [ev] at h
  | exit id =>
    intro ac p _ _ s kn ex kr r h
    cases ac with
    | exit live co =>
      simp only [ev] at h ⊢
      obtain ⟨s2, _, e2, m2, r2⟩ := canon_step h
      exact ⟨.ex id s2, fun kn ex kr => e2 _, m2, fun w0 M0 ds a w hl hr => wp_exit ⟨rfl, r2 w0 M0 ds n a w hl hr⟩⟩
    | _ => simp [ev] at h
  | ret =>
    intro ac p _ _ s kn ex kr r h
    cases ac with
    | ret live =>
      simp only [ev] at h ⊢
      obtain ⟨s2, _, e2, m2, r2⟩ := canon_step h
      exact ⟨.kr s2, fun kn ex kr => e2 _, m2, fun w0 M0 ds a w hl hr => wp_ret ⟨rfl, r2 w0 M0 ds n a w hl hr⟩⟩
    | _ => simp [ev] at h
  | _ => intro ac p _ _ s kn ex kr r h; cases ac <;> simp [ev] at h

end Go.Proofs.Ytcipegkeoheikaa.Dx
/- Loops, cuts and whole functions. -/
namespace Go.Proofs.Ytcipegkeoheikaa.Dx
open Go

variable {R : Type} {P : Program}

/-- A loop's rounds, told by a function of their number. -/
theorem rounds_ok {X : Ctx R} (hX : Snd P X) (hD : DetC X) (hm : P.follows .mixedOrders = true) {n : Nat} {body : Code} {tbl : List (Nat × List Nat)} (ht : TblOk P X n body tbl) {c : Code} {ac : AC} {p : List Nat} {live : List Nat} {co : List (Nat × TypeId × Sh)}
    (hp : subC p body = c) (hc : checkB tbl n c ac p = true) {Lf : Nat → St → Conts R} (h0 : ∀ s kn ex kr, Lf 0 s kn ex kr = none)
    (hS : ∀ k s, (∀ kn ex kr, Lf (k + 1) s kn ex kr = none) ∨ ∀ kn ex kr, Lf (k + 1) s kn ex kr = ev X c ac (fun s' => canonK live co s' fun s'' => Lf k s'' kn ex kr) ex kr s) :
    ∀ k s kn ex kr r, Lf k s kn ex kr = some r → ∃ o : Out, (∀ kn ex kr, Lf k s kn ex kr = o.go kn ex kr) ∧ o.st.m = s.m ∧
      ∀ w0 M0 ds a w, Low M0 s.m → Rel w0 M0 ds n s.env s.rows a w → Code.rounds P c (Post w0 M0 ds n o) k a w := by
  intro k
  induction k with
  | zero => intro s kn ex kr r h; rw [h0] at h; cases h
  | succ k ih =>
    intro s kn ex kr r h
    rcases hS k s with hn | he
    · rw [hn] at h; cases h
    have h1 := h
    rw [he] at h1
    obtain ⟨o1, e1, m1, w1⟩ := ev_ok hX hD hm ht c ac p hp hc s _ _ _ r h1
    have h2 := (e1 _ _ _).symm.trans h1
    cases o1 with
    | kn s1 =>
      simp only [Out.go] at h2 e1
      obtain ⟨s2, h3, e2, m2, r2⟩ := canon_step h2
      obtain ⟨o, e3, m3, w3⟩ := ih s2 kn ex kr r h3
      refine ⟨o, fun kn ex kr => (he kn ex kr).trans ((e1 _ _ _).trans ((e2 _).trans (e3 kn ex kr))), m3.trans (m2.trans m1), fun w0 M0 ds a w hl hr => wp_mono (w1 w0 M0 ds a w hl hr) ?_⟩
      rintro e a2 w2 ⟨rfl, hr2⟩
      exact w3 w0 M0 ds a2 w2 ((hl.m m1).m m2) (r2 w0 M0 ds n a2 w2 (hl.m m1) hr2)
    | ex id s1 =>
      refine ⟨.ex id s1, fun kn ex kr => (he _ _ _).trans (e1 _ _ _), m1, fun w0 M0 ds a w hl hr => wp_mono (w1 w0 M0 ds a w hl hr) ?_⟩
      rintro e a2 w2 ⟨rfl, hr2⟩
      exact ⟨rfl, hr2⟩
    | kr s1 =>
      refine ⟨.kr s1, fun kn ex kr => (he _ _ _).trans (e1 _ _ _), m1, fun w0 M0 ds a w hl hr => wp_mono (w1 w0 M0 ds a w hl hr) ?_⟩
      rintro e a2 w2 ⟨rfl, hr2⟩
      exact ⟨rfl, hr2⟩

theorem loop_ok {X : Ctx R} (hX : Snd P X) (hD : DetC X) (hm : P.follows .mixedOrders = true) {n : Nat} {body : Code} {tbl : List (Nat × List Nat)} (ht : TblOk P X n body tbl) {c : Code} {ac : AC} {p : List Nat} {live : List Nat} {co : List (Nat × TypeId × Sh)}
    {i F : Nat} {Lf : Nat → St → Conts R} (hp : subC p body = .loop c) (hc : checkB tbl n c ac (napp p [0]) = true) (h0 : ∀ s kn ex kr, Lf 0 s kn ex kr = none)
    (hS : ∀ k s, (∀ kn ex kr, Lf (k + 1) s kn ex kr = none) ∨ ∀ kn ex kr, Lf (k + 1) s kn ex kr = ev X c ac (fun s' => canonK live co s' fun s'' => Lf k s'' kn ex kr) ex kr s)
    (hL : ∀ s kn ex kr, X.L i s kn ex kr = Lf F s kn ex kr) : LOk P X n i (subC p body) := by
  intro s kn ex kr r h
  replace h := (hL _ _ _ _).symm.trans h
  have p0 : subC (napp p [0]) body = c := by rw [subC_app, hp]; rfl
  obtain ⟨o, e1, m1, w1⟩ := rounds_ok hX hD hm ht p0 hc h0 hS F s kn ex kr r h
  refine ⟨o, fun kn ex kr => (hL _ _ _ _).trans (e1 _ _ _), m1, fun w0 M0 ds a w hl hr => ?_⟩
  rw [hp]
  exact wp_loop_rounds F (w1 w0 M0 ds a w hl hr)

theorem behind_ok {X : Ctx R} (hX : Snd P X) (hD : DetC X) (hm : P.follows .mixedOrders = true) {n : Nat} {body : Code} {tbl : List (Nat × List Nat)} (ht : TblOk P X n body tbl) {c : Code} {ac : AC} {p : List Nat} {live : List Nat} {co : List (Nat × TypeId × Sh)}
    {i : Nat} {Lf : St → Conts R} (hp : subC p body = c) (hc : checkB tbl n c ac p = true)
    (hS : ∀ s, (∀ kn ex kr, Lf s kn ex kr = none) ∨ ∀ kn ex kr, Lf s kn ex kr = ev X c ac (fun s' => canonK live co s' kn) ex kr s)
    (hL : ∀ s kn ex kr, X.L i s kn ex kr = Lf s kn ex kr) : LOk P X n i (subC p body) := by
  intro s kn ex kr r h
  replace h := (hL _ _ _ _).symm.trans h
  rcases hS s with hn | he
  · rw [hn] at h; cases h
  rw [he] at h
  obtain ⟨o, e1, m1, w1⟩ := cutN_ok (h := fun kn ex kr => ev X c ac kn ex kr s) (live := live) (co := co) (ev_ok hX hD hm ht c ac p hp hc s) kn ex kr r h
  refine ⟨o, fun kn ex kr => (hL _ _ _ _).trans ((he _ _ _).trans (e1 _ _ _)), m1, ?_⟩
  rw [hp]
  exact w1

/-! ## patterns -/

theorem V.dec_spec : ∀ (p v : V), (∀ K : p.PT → Option R, p.dec v K = none) ∨ ∃ x, v = p.enc x ∧ ∀ K : p.PT → Option R, p.dec v K = K x := by
  intro p
  induction p with
  | val s y =>
    intro v
    cases v with
    | val s' x =>
      by_cases e : s' = s
      · subst e; exact .inr ⟨x, rfl, fun K => by simp [V.dec]⟩
      · exact .inl fun K => by simp [V.dec, e]
    | _ => exact .inl fun K => rfl
  | loc s y j =>
    intro v
    cases v with
    | loc s' x j' =>
      by_cases e : s' = s
      · subst e
        cases hb : Nat.beq j j' with
        | true =>
          have := Nat.eq_of_beq_eq_true hb
          subst this
          exact .inr ⟨x, rfl, fun K => by simp [V.dec, hb, cnd]⟩
        | false => exact .inl fun K => by simp [V.dec, hb, cnd]
      · exact .inl fun K => by simp only [V.dec, e, dite_false]; cases Nat.beq j j' <;> rfl
    | _ => exact .inl fun K => rfl
  | sub k v lo n =>
    intro w
    cases w with
    | sub k' v' lo' n' =>
      cases hb : (Nat.beq k k' && Nat.beq v v') with
      | true =>
        simp only [Bool.and_eq_true] at hb
        have h1 := Nat.eq_of_beq_eq_true hb.1
        have h2 := Nat.eq_of_beq_eq_true hb.2
        subst h1; subst h2
        exact .inr ⟨(lo', n'), rfl, fun K => by simp [V.dec, hb, cnd]⟩
      | false => exact .inl fun K => by simp only [V.dec, hb, cnd]
    | _ => exact .inl fun K => rfl
  | ptr k v i j =>
    intro w
    cases w with
    | ptr k' v' i' j' =>
      cases hb : (Nat.beq k k' && Nat.beq v v' && Nat.beq i i' && Nat.beq j j') with
      | true =>
        have hb' := hb
        simp only [Bool.and_eq_true] at hb
        have h1 := Nat.eq_of_beq_eq_true hb.1.1.1
        have h2 := Nat.eq_of_beq_eq_true hb.1.1.2
        have h3 := Nat.eq_of_beq_eq_true hb.1.2
        have h4 := Nat.eq_of_beq_eq_true hb.2
        subst h1; subst h2; subst h3; subst h4
        exact .inr ⟨(), rfl, fun K => by simp only [V.dec, hb', cnd]⟩
      | false => exact .inl fun K => by simp only [V.dec, hb, cnd]
    | _ => exact .inl fun K => rfl
  | fn f a b iha ihb =>
    intro w
    cases w with
    | fn f' a' b' =>
      cases hb : Nat.beq f f' with
      | false => exact .inl fun K => by simp only [V.dec, hb, cnd]
      | true =>
        have := Nat.eq_of_beq_eq_true hb
        subst this
        rcases iha a' with h1 | ⟨x, rfl, h1⟩
        · exact .inl fun K => by simp only [V.dec, hb, cnd, h1]
        · rcases ihb b' with h2 | ⟨y, rfl, h2⟩
          · exact .inl fun K => by simp only [V.dec, hb, cnd, h1, h2]
          · exact .inr ⟨(x, y), rfl, fun K => by simp only [V.dec, hb, cnd, h1, h2]⟩
    | _ => exact .inl fun K => rfl
  | agg l ih =>
    intro w
    cases w with
    | agg l' =>
      rcases ih l' with h1 | ⟨x, rfl, h1⟩
      · exact .inl fun K => by simp only [V.dec, h1]
      · exact .inr ⟨x, rfl, fun K => by simp only [V.dec, h1]⟩
    | _ => exact .inl fun K => rfl
  | tup l ih =>
    intro w
    cases w with
    | tup l' =>
      rcases ih l' with h1 | ⟨x, rfl, h1⟩
      · exact .inl fun K => by simp only [V.dec, h1]
      · exact .inr ⟨x, rfl, fun K => by simp only [V.dec, h1]⟩
    | _ => exact .inl fun K => rfl
  | lcons h t ihh iht =>
    intro w
    cases w with
    | lcons h' t' =>
      rcases ihh h' with h1 | ⟨x, rfl, h1⟩
      · exact .inl fun K => by simp only [V.dec, h1]
      · rcases iht t' with h2 | ⟨y, rfl, h2⟩
        · exact .inl fun K => by simp only [V.dec, h1, h2]
        · exact .inr ⟨(x, y), rfl, fun K => by simp only [V.dec, h1, h2]⟩
    | _ => exact .inl fun K => rfl
  | own k v =>
    intro w
    cases w with
    | own k' v' =>
      cases hb : (Nat.beq k k' && Nat.beq v v') with
      | true =>
        have hb' := hb
        simp only [Bool.and_eq_true] at hb
        have h1 := Nat.eq_of_beq_eq_true hb.1
        have h2 := Nat.eq_of_beq_eq_true hb.2
        subst h1; subst h2
        exact .inr ⟨(), rfl, fun K => by simp only [V.dec, hb', cnd]⟩
      | false => exact .inl fun K => by simp only [V.dec, hb, cnd]
    | _ => exact .inl fun K => rfl
  | nil =>
    intro w
    cases w with
    | nil => exact .inr ⟨(), rfl, fun K => rfl⟩
    | _ => exact .inl fun K => rfl
  | lnil =>
    intro w
    cases w with
    | lnil => exact .inr ⟨(), rfl, fun K => rfl⟩
    | _ => exact .inl fun K => rfl
  | undef =>
    intro w
    cases w with
    | undef => exact .inr ⟨(), rfl, fun K => rfl⟩
    | _ => exact .inl fun K => rfl

theorem decl_spec : ∀ (p vs : List V), (∀ K : PTl p → Option R, decl p vs K = none) ∨ ∃ x, vs = encl p x ∧ ∀ K : PTl p → Option R, decl p vs K = K x
  | [], [] => .inr ⟨(), rfl, fun K => rfl⟩
  | [], _ :: _ => .inl fun K => rfl
  | _ :: _, [] => .inl fun K => rfl
  | h :: t, v :: vs => by
    rcases V.dec_spec (R := R) h v with h1 | ⟨x, rfl, h1⟩
    · exact .inl fun K => by simp only [decl, h1]
    · rcases decl_spec t vs with h2 | ⟨y, rfl, h2⟩
      · exact .inl fun K => by simp only [decl, h1, h2]
      · exact .inr ⟨(x, y), rfl, fun K => by simp only [decl, h1, h2]⟩

theorem Body.dec_spec (p b : Body) : (∀ K : p.PT → Option R, p.dec b K = none) ∨ ∃ x, b = p.enc x ∧ ∀ K : p.PT → Option R, p.dec b K = K x := by
  cases p with
  | arr e s xs =>
    cases b with
    | arr e' s' ys =>
      by_cases h : s' = s
      · subst h
        cases hb : Nat.beq e e' with
        | true =>
          have := Nat.eq_of_beq_eq_true hb
          subst this
          exact .inr ⟨ys, rfl, fun K => by simp [Body.dec, hb, cnd]⟩
        | false => exact .inl fun K => by simp only [Body.dec, hb, cnd]
      · exact .inl fun K => by simp only [Body.dec, h, dite_false]; cases Nat.beq e e' <;> rfl
    | _ => exact .inl fun K => rfl
  | one s x =>
    cases b with
    | one s' y =>
      by_cases h : s' = s
      · subst h; exact .inr ⟨y, rfl, fun K => by simp [Body.dec]⟩
      · exact .inl fun K => by simp [Body.dec, h]
    | _ => exact .inl fun K => rfl
  | box cs =>
    cases b with
    | box cs' =>
      rcases decl_spec (R := R) cs cs' with h | ⟨x, rfl, h⟩
      · exact .inl fun K => h K
      · exact .inr ⟨x, rfl, fun K => h K⟩
    | _ => exact .inl fun K => rfl

theorem decr_spec : ∀ (p rs : List (Option Row)), (∀ K : PTr p → Option R, decr p rs K = none) ∨ ∃ x, rs = encr p x ∧ ∀ K : PTr p → Option R, decr p rs K = K x
  | [], [] => .inr ⟨(), rfl, fun K => rfl⟩
  | [], _ :: _ => .inl fun K => rfl
  | none :: _, [] => .inl fun K => rfl
  | some _ :: _, [] => .inl fun K => rfl
  | none :: t, none :: t' => by
    rcases decr_spec t t' with h | ⟨x, rfl, h⟩
    · exact .inl fun K => h K
    · exact .inr ⟨x, rfl, fun K => h K⟩
  | none :: t, some _ :: t' => .inl fun K => rfl
  | some _ :: t, none :: t' => .inl fun K => rfl
  | some r :: t, some r' :: t' => by
    cases hb : (Nat.beq r.v r'.v && (r.fz == r'.fz) && (r.app == r'.app)) with
    | false => exact .inl fun K => by simp only [decr, hb, cnd]
    | true =>
      rcases Body.dec_spec (R := R) r.b r'.b with h1 | ⟨x, hx, h1⟩
      · exact .inl fun K => by simp only [decr, hb, cnd, h1]
      · rcases decr_spec t t' with h2 | ⟨y, rfl, h2⟩
        · exact .inl fun K => by simp only [decr, hb, cnd, h1, h2]
        · refine .inr ⟨(x, y), ?_, fun K => by simp only [decr, hb, cnd, h1, h2]⟩
          simp only [Bool.and_eq_true, beq_iff_eq] at hb
          have e1 := Nat.eq_of_beq_eq_true hb.1.1
          obtain ⟨v, fz, app, b⟩ := r
          obtain ⟨v', fz', app', b'⟩ := r'
          simp only at hb hx e1
          obtain ⟨⟨_, rfl⟩, rfl⟩ := hb
          subst e1; subst hx
          rfl

theorem dece_spec : ∀ (p l : List (Nat × V)), (∀ K : PTe p → Option R, dece p l K = none) ∨ ∃ x, l = ence p x ∧ ∀ K : PTe p → Option R, dece p l K = K x
  | [], [] => .inr ⟨(), rfl, fun K => rfl⟩
  | [], _ :: _ => .inl fun K => rfl
  | (_, _) :: _, [] => .inl fun K => rfl
  | (d, v) :: t, (d', v') :: t' => by
    cases hb : Nat.beq d d' with
    | false => exact .inl fun K => by simp only [dece, hb, cnd]
    | true =>
      have := Nat.eq_of_beq_eq_true hb
      subst this
      rcases V.dec_spec (R := R) v v' with h1 | ⟨x, rfl, h1⟩
      · exact .inl fun K => by simp only [dece, hb, cnd, h1]
      · rcases dece_spec t t' with h2 | ⟨y, rfl, h2⟩
        · exact .inl fun K => by simp only [dece, hb, cnd, h1, h2]
        · exact .inr ⟨(x, y), rfl, fun K => by simp only [dece, hb, cnd, h1, h2]⟩

theorem St.dec_spec (p s : St) : (∀ K : p.PT → Option R, p.dec s K = none) ∨ ∃ x, s = p.enc x ∧ ∀ K : p.PT → Option R, p.dec s K = K x := by
  cases hb : Nat.beq p.m s.m with
  | false => exact .inl fun K => by simp only [St.dec, hb, cnd]
  | true =>
    have hm := Nat.eq_of_beq_eq_true hb
    rcases dece_spec (R := R) p.env s.env with h1 | ⟨x, hx, h1⟩
    · exact .inl fun K => by simp only [St.dec, hb, cnd, h1]
    · rcases decr_spec (R := R) p.rows s.rows with h2 | ⟨y, hy, h2⟩
      · exact .inl fun K => by simp only [St.dec, hb, cnd, h1, h2]
      · refine .inr ⟨(x, y), ?_, fun K => by simp only [St.dec, hb, cnd, h1, h2]⟩
        obtain ⟨e, rs, m⟩ := s
        simp only at hx hy hm
        subst hx; subst hy; subst hm
        rfl

/-- What is told by a pattern holds of every state that fits. -/
theorem dec_or {p : St} {g : p.PT → Conts R} {e : St → Conts R} (h : ∀ x kn ex kr, g x kn ex kr = e (p.enc x) kn ex kr) (s : St) :
    (∀ kn ex kr, p.dec s (fun y => g y kn ex kr) = none) ∨ ∀ kn ex kr, p.dec s (fun y => g y kn ex kr) = e s kn ex kr := by
  rcases St.dec_spec (R := R) p s with h1 | ⟨x, rfl, h1⟩
  · exact .inl fun kn ex kr => h1 _
  · exact .inr fun kn ex kr => (h1 _).trans (h x kn ex kr)

theorem decf_or {pa : List V} {pr : List (Option Row)} {g : PTl pa → PTr pr → (List V → List (Option Row) → Option R) → Option R} {e : List V → List (Option Row) → (List V → List (Option Row) → Option R) → Option R}
    (h : ∀ x y K, g x y K = e (encl pa x) (encr pr y) K) (vs : List V) (rows : List (Option Row)) :
    (∀ K, decl pa vs (fun x => decr pr rows fun y => g x y K) = none) ∨ ((∃ x, vs = encl pa x) ∧ ∀ K, decl pa vs (fun x => decr pr rows fun y => g x y K) = e vs rows K) := by
  rcases decl_spec (R := R) pa vs with h1 | ⟨x, rfl, h1⟩
  · exact .inl fun K => h1 _
  · rcases decr_spec (R := R) pr rows with h2 | ⟨y, rfl, h2⟩
    · exact .inl fun K => (h1 _).trans (h2 _)
    · exact .inr ⟨⟨x, rfl⟩, fun K => (h1 _).trans ((h2 _).trans (h x y K))⟩

theorem encl_length : ∀ (p : List V) (x : PTl p), (encl p x).length = p.length
  | [], _ => rfl
  | _ :: t, x => by simp [encl, encl_length t x.2]

end Go.Proofs.Ytcipegkeoheikaa.Dx
/- A whole function: its contract out of what the evaluator tells. -/
namespace Go.Proofs.Ytcipegkeoheikaa.Dx
open Go

variable {R : Type} {P : Program}

/-- A function is told soundly. -/
def FnOk (P : Program) (f : FuncId) (c : List V → List (Option Row) → (List V → List (Option Row) → Option R) → Option R) : Prop :=
  ∀ vs rin K r, c vs rin K = some r → ∃ res out, (∀ K, c vs rin K = K res out) ∧ Spec P f vs rin res out

/-! ## results -/

theorem loadVar_run {t : TypeId} {w : World} {M : Mem} {v : V} {ua u : Value} (ha : VR M v ua) {R : Type} {rows : List (Option Row)} {d : TyD} {K : V → Option R} {r : R} (hl : loadOp rows d v K = some r) (h : (Instr.loadAt t ua).run P w = .ok u w)
    (hr : rows = M.rows) : (do loadVar t (← asAddr ua) : Sem Value).run P w = .ok u w := by
  have hp : ∃ a, ua = .pointer (some a) := by
    cases v with
    | ptr k ver i j =>
      simp only [VR, VRL] at ha
      obtain ⟨⟨p, rfl⟩, _⟩ := ha
      exact ⟨p, rfl⟩
    | loc s x j =>
      simp only [VR, VRL] at ha
      obtain ⟨b, o, C, ecs, rfl, _⟩ := ha
      exact ⟨_, rfl⟩
    | _ => simp [loadOp] at hl
  obtain ⟨a, rfl⟩ := hp
  simp only [Instr.loadAt, Instr.sureAddr] at h
  exact h

def resOf (tmps : Array Value) : ResultVar → Sem Value
  | .tmp t => pure (tmps.getD t undef)
  | .cell a t => do loadVar t (← asAddr (tmps.getD a undef))

theorem resV_sound {ty : TypeId → TyD} (hT : TabOk P ty) {w0 : World} {M : Mem} (hM : MemOk w0 M) {s : St} (hr : M.rows = s.rows) {tmps : Array Value} (he : EnvR M s.env tmps) : ∀ {l : List ResultVar} {K : List V → Option R} {r : R}, resV s ty l K = some r →
    ∃ vs us, K vs = some r ∧ VS M vs us ∧ (l.mapM (resOf tmps)).run P M.w = .ok us M.w
  | [], K, r, h => ⟨[], [], h, .nil, rfl⟩
  | .tmp t :: l, K, r, h => by
    simp only [resV] at h
    obtain ⟨vs, us, h1, h2, h3⟩ := resV_sound hT hM hr he h
    refine ⟨_, tmps.getD t undef :: us, h1, .cons (he t) h2, ?_⟩
    rw [List.mapM_cons, run_bind]
    simp only [resOf]
    rw [show (pure (tmps.getD t undef) : Sem Value).run P M.w = .ok (tmps.getD t undef) M.w from rfl]
    simp only
    rw [run_bind, h3]
    rfl
  | .cell a t :: l, K, r, h => by
    simp only [resV] at h
    obtain ⟨hk, h⟩ := cnd_some h
    have h0 := h
    rw [← hr] at h
    obtain ⟨v, u, g1, g2, g3⟩ := load_sound (hT.ok t hk) hM (he a) h
    obtain ⟨vs, us, h1, h2, h3⟩ := resV_sound hT hM hr he g1
    refine ⟨_, u :: us, h1, .cons g2 h2, ?_⟩
    rw [List.mapM_cons, run_bind]
    simp only [resOf]
    rw [loadVar_run (he a) h g3 rfl]
    simp only
    rw [run_bind, h3]
    rfl

theorem results_run {fn : Func} {tmps : Array Value} {us : List Value} {w : World} (h : (fn.results.toList.mapM (resOf tmps)).run P w = .ok us w) : (results fn tmps).run P w = .ok (retV us) w := by
  have e : results fn tmps = (fn.results.mapM (resOf tmps) >>= fun vs => pure (if h : vs.size = 1 then vs[0] else .tuple vs)) := by
    unfold results
    congr 1
  rw [e, run_bind]
  rw [Array.mapM_eq_mapM_toList]
  have e2 : (List.toArray <$> (fn.results.toList.mapM (resOf tmps)) : Sem (Array Value)).run P w = .ok us.toArray w := by
    rw [map_eq_pure_bind, run_bind, h]
    rfl
  rw [e2]
  simp only
  match us with
  | [] => rfl
  | [v] => rfl
  | v :: v' :: t => rfl

theorem argsE_env {M : Mem} : ∀ {vs : List V} {us : List Value} (i : Nat) (pre : List Value) (post : List Value), VS M vs us → pre.length = i → EnvL M (argsE i vs) (pre ++ us ++ post).toArray
  | [], _, i, pre, post, _, _, d, v, hd => by simp [argsE] at hd
  | v :: vs, us, i, pre, post, hv, hi, d, x, hd => by
    cases hv with
    | cons h1 h2 =>
      rename_i u us
      simp only [argsE, List.mem_cons, Prod.mk.injEq] at hd
      rcases hd with ⟨rfl, rfl⟩ | hd
      · have : (pre ++ u :: us ++ post).toArray.getD d undef = u := by
          rw [Array.getD_eq_getD_getElem?]
          simp only [List.getElem?_toArray, List.append_assoc, List.cons_append]
          rw [List.getElem?_append_right (by omega)]
          simp [hi]
        rw [this]; exact h1
      · have := argsE_env (i + 1) (pre ++ [u]) post h2 (by simp [hi]) d x hd
        simpa using this

theorem rlen_of_get {rows : List (Option Row)} {j : Nat} {r : Row} (h : rget rows j = some r) : j < rlen rows := rget_lt h

theorem fn_ok {X : Ctx R} (hX : Snd P X) (hD : DetC X) (hm : P.follows .mixedOrders = true) {f : FuncId} {fn : Func} {c : Code} (hf : P.funcs[f]? = some fn) (hb : fn.body = some c) {tbl : List (Nat × List Nat)} {n : Nat} (hn : fn.ntmps = n) (ht : TblOk P X n c tbl)
    {ac : AC} {rms : List RM} (hc : checkB tbl n c ac [] = true) {fc : List V → List (Option Row) → (List V → List (Option Row) → Option R) → Option R} {np : Nat} (hnp : np ≤ n)
    (hfc : ∀ vs rows, (∀ K, fc vs rows K = none) ∨ (vs.length = np ∧ ∀ K, fc vs rows K = evFn X fn.results.toList rms c ac vs rows K)) : FnOk P f fc := by
  intro vs rin K r h
  rcases hfc vs rin with hno | ⟨hlen, he⟩
  · rw [hno] at h; cases h
  have h1 := h
  rw [he] at h1
  simp only [evFn] at h1
  let s0 : St := { env := argsE 0 vs, rows := rin, m := rlen rin }
  obtain ⟨o, e1, m1, w1⟩ := ev_ok hX hD hm ht c ac [] rfl hc s0 _ _ _ r h1
  have h2 := (e1 _ _ _).symm.trans h1
  -- where it ends
  have fin : ∀ s1, o = .kn s1 ∨ o = .kr s1 → ∃ res out, (∀ K, fc vs rin K = K res out) ∧ Spec P f vs rin res out := by
    intro s1 ho
    have hk : krFn X fn.results.toList rms K s1 = some r := by
      rcases ho with rfl | rfl
      · exact h2
      · exact h2
    unfold krFn at hk
    obtain ⟨ps, q1, q2⟩ := (resV_det (R := R) (ty := X.ty) s1 fn.results.toList).one hk
    obtain ⟨⟨res, out⟩, h3, d3⟩ := (finish_det rms s1 ps).one (K := fun p => K p.1 p.2) q1
    refine ⟨res, out, fun K' => ?_, ?_⟩
    · refine (he K').trans ?_
      simp only [evFn]
      refine (e1 _ _ _).trans ?_
      have e3 : krFn X fn.results.toList rms K' s1 = K' res out := by
        unfold krFn
        exact (q2 _).trans (d3 fun p => K' p.1 p.2)
      rcases ho with rfl | rfl
      · exact e3
      · exact e3
    · intro M us hM hrows hvs
      have hlow : Low M s0.m := fun j r hj => by rw [hrows] at hj; exact rget_lt hj
      refine calls_of_wp hf hb ?_
      have hul : us.length = vs.length := hvs.length.symm
      have htm : (us.toArray ++ Array.replicate (fn.ntmps - us.toArray.size) undef) = ([] ++ us ++ List.replicate (fn.ntmps - us.length) undef).toArray := by
        apply Array.ext'
        simp
      have hrel : Rel M.w M [] n s0.env s0.rows { tmps := us.toArray ++ Array.replicate (fn.ntmps - us.toArray.size) undef, defers := [] } M.w := by
        refine ⟨M, hM, hrows, rfl, rfl, rfl, rfl, fun j r hj => ⟨r, hj, rfl, .inl ⟨Alike.refl _, rfl⟩⟩, ?_, rfl, ?_⟩
        · rw [htm]
          exact (argsE_env 0 [] _ hvs rfl).envR
        · rw [htm]
          simp only [List.size_toArray, List.length_append, List.length_replicate, List.length_nil]
          omega
      refine wp_mono (w1 M.w M [] _ M.w hlow hrel) ?_
      rintro e a' w' ⟨rfl, M', g1, g2, g3, g4, g5, g6, g7, g8, g9, g10⟩
      have hst : o.st = s1 := by rcases ho with rfl | rfl <;> rfl
      rw [hst] at g2 g8 m1
      subst g3
      have hfin : a'.defers = [] ∧ ∃ v, (results fn a'.tmps).run P M'.w = .ok v M'.w ∧ ∃ vs α', Ending.returned v = .returned (retV vs) ∧ MemOk M.w (M.to M'.w out α') ∧ VS (M.to M'.w out α') res vs ∧ EntR M (M.to M'.w out α') ∧ ∀ j r, rget out j = some r → r.fz = false := by
        classical
        let T1 : List V → Option R := fun l => if l = ps then some r else none
        have hT1 : resV s1 X.ty fn.results.toList T1 = some r := by rw [q2]; simp only [T1, if_true]
        obtain ⟨ps', us', k1, k2, k3⟩ := resV_sound hX.ctx.tab g1 g2 g8 hT1
        have ep : ps' = ps := by
          simp only [T1] at k1
          split at k1
          · assumption
          · cases k1
        subst ep
        let T2 : List V → List (Option Row) → Option R := fun a b => if (a, b) = (res, out) then some r else none
        have hT2 : finish rms s1 ps' T2 = some r := by
          refine (d3 fun p => T2 p.1 p.2).trans ?_
          simp only [T2, if_true]
        obtain ⟨res', out', α', k4, k5, k6, k7, k8⟩ := finish_sound g1 g2 k2 g7 (fun j r hj => (hlow.m m1) j r hj) hT2
        have er : (res', out') = (res, out) := by
          simp only [T2] at k4
          split at k4
          · assumption
          · cases k4
        simp only [Prod.mk.injEq] at er
        obtain ⟨rfl, rfl⟩ := er
        have eM : M'.to M'.w out' α' = M.to M'.w out' α' := by
          simp only [Mem.to, g4, g5, g6]
        rw [eM] at k5 k6 k7
        exact ⟨g9, _, results_run k3, us', α', rfl, k5, k6, k7, k8⟩
      rcases ho with rfl | rfl
      · exact hfin
      · exact hfin
  cases o with
  | kn s1 => exact fin s1 (.inl rfl)
  | kr s1 => exact fin s1 (.inr rfl)
  | ex id s1 => simp [Out.go, exitK] at h2

end Go.Proofs.Ytcipegkeoheikaa.Dx
/- Tables of types: a check that the kernel carries out tells that they are true of the program. -/
namespace Go.Proofs.Ytcipegkeoheikaa.Dx
open Go

variable {P : Program}

theorem ba_nil {b : ByteArray} (h : Nat.beq b.data.size 0 = true) : b = ByteArray.empty := by
  obtain ⟨⟨l⟩⟩ := b
  have := Nat.eq_of_beq_eq_true h
  cases l with
  | nil => rfl
  | cons a t => simp at this

def nilC : List Value → Bool
  | [.slice none 0 0] => true
  | _ => false

/-- The cells are these of a value without elements in its slices and bytes in its strings. -/
def rdB : (s : Sh) → s.T → List Value → Bool
  | .int k, x, [.int k' n] => decide (k = k') && decide (n = x)
  | .bool, x, [.bool b] => x == b
  | .str, x, [.string b] => Nat.beq b.data.size 0 && Nat.beq (show ByteArray from x).data.size 0
  | .unit, _, [] => true
  | .pair a b, x, cs => rdB a x.1 (cs.take a.w) && rdB b x.2 (cs.drop a.w)
  | .sl _, x, cs => List.isEmpty x && nilC cs
  | _, _, _ => false

theorem rdB_spec : ∀ {s : Sh} {x : s.T} {cs : List Value}, rdB s x cs = true → ∀ w U, Rd w U s x cs := by
  intro s
  induction s with
  | int k =>
    intro x cs h w U
    unfold rdB at h
    split at h <;> simp_all [Rd]
  | bool =>
    intro x cs h w U
    unfold rdB at h
    split at h <;> simp_all [Rd]
  | str =>
    intro x cs h w U
    unfold rdB at h
    split at h <;> try (simp_all; done)
    rename_i heq
    cases heq
    rename_i x b
    simp only [Bool.and_eq_true] at h
    rw [ba_nil h.1]
    have := ba_nil h.2
    simp only [Rd]
    rw [this]
  | unit =>
    intro x cs h w U
    unfold rdB at h
    split at h <;> simp_all [Rd]
  | sl s ih =>
    intro x cs h w U
    simp only [rdB, Bool.and_eq_true] at h
    have hx : x = [] := by simpa using h.1
    have hc : cs = [.slice none 0 0] := by
      have := h.2
      unfold nilC at this
      split at this
      · rfl
      · cases this
    subst hx; subst hc
    simp only [Rd]
    refine ⟨none, 0, rfl, Nat.le_refl _, fun _ => rfl, ?_⟩
    simp
  | pair a b iha ihb =>
    intro x cs h w U
    simp only [rdB, Bool.and_eq_true] at h
    simp only [Rd]
    exact ⟨_, _, (List.take_append_drop a.w cs).symm, iha h.1 w U, ihb h.2 w U⟩

def cellB : V → Value → Bool
  | .undef, _ => true
  | .val s x, z => !s.agg && rdB s x [z]
  | .nil, .slice none 0 0 => true
  | _, _ => false

theorem cellB_spec {v : V} {z : Value} (h : cellB v z = true) (M : Mem) : VR M v z := by
  unfold cellB at h
  split at h
  · exact VR.undef _
  · simp only [Bool.and_eq_true, Bool.not_eq_true'] at h
    simp only [VR, VRL, h.1]
    exact rdB_spec h.2 _ _
  · simp [VR, VRL]
  · cases h

def zeroL : V → List Value → Bool
  | .lnil, [] => true
  | .lcons h t, u :: us => cellB h u && u.oneCell' && zeroL t us
  | _, _ => false

theorem flat_of {u : Value} (h : u.oneCell' = true) : flat u := by
  refine ⟨?_, h⟩
  cases u <;> first | rfl | (simp [Value.oneCell'] at h)

theorem zeroL_spec : ∀ {l : V} {us : List Value}, zeroL l us = true → ∀ M, VL M l us ∧ ∀ u ∈ us, flat u
  | .lnil, [], _, M => ⟨rfl, fun u hu => by simp at hu⟩
  | .lcons a t, u :: us, h, M => by
    simp only [zeroL, Bool.and_eq_true] at h
    obtain ⟨h1, h2⟩ := zeroL_spec h.2 M
    refine ⟨⟨u, us, cellB_spec h.1.1 M, h1, rfl⟩, fun v hv => ?_⟩
    rcases List.mem_cons.1 hv with rfl | hv
    · exact flat_of h.1.2
    · exact h2 v hv
  | .lnil, _ :: _, h, _ => by simp [zeroL] at h
  | .lcons _ _, [], h, _ => by simp [zeroL] at h
  | .undef, _, h, _ | .val _ _, _, h, _ | .nil, _, h, _ | .own _ _, _, h, _ | .sub _ _ _ _, _, h, _ | .ptr _ _ _ _, _, h, _ | .loc _ _ _, _, h, _ | .fn _ _ _, _, h, _ | .agg _, _, h, _ | .tup _, _, h, _ => by simp [zeroL] at h

def zeroB : V → Value → Bool
  | .agg l, .agg cs => zeroL l cs.toList
  | .val s x, .agg cs => s.agg && rdB s x cs.toList
  | v, z => cellB v z

theorem zeroB_spec {v : V} {z : Value} (h : zeroB v z = true) (M : Mem) : VR M v z := by
  unfold zeroB at h
  split at h
  · obtain ⟨h1, h2⟩ := zeroL_spec h M
    exact ⟨_, h1, h2, rfl⟩
  · simp only [Bool.and_eq_true] at h
    simp only [VR, VRL, h.1, if_true]
    exact ⟨_, rdB_spec h.2 _ _, rfl⟩
  · exact cellB_spec h M

def aggD (e : TypeDesc) : Bool := match e with | .struct _ => true | .array _ _ => true | _ => false

def fldB (P : Program) (f : Fld) (g : Field) : Bool :=
  Nat.beq g.offset f.off && (match P.info? g.type with | some i => Nat.beq i.size f.size | none => false) && (match P.underlying g.type with | some e => aggD e == f.agg | none => false) &&
    (match f.sh with | some s => s.agg == f.agg | none => true) && (f.agg || Nat.beq f.size 1)

theorem fldB_spec {f : Fld} {g : Field} (h : fldB P f g = true) : FldOk P f g := by
  simp only [fldB, Bool.and_eq_true] at h
  obtain ⟨⟨⟨⟨h1, h2⟩, h3⟩, h4⟩, h5⟩ := h
  refine ⟨Nat.eq_of_beq_eq_true h1, ?_, ?_, ?_, ?_⟩
  · split at h2
    · rename_i i hi; rw [hi]; simp [Nat.eq_of_beq_eq_true h2]
    · cases h2
  · split at h3
    · rename_i e he; exact ⟨e, he, by cases e <;> simpa [aggD] using h3⟩
    · cases h3
  · intro s hs; rw [hs] at h4; simpa using h4
  · intro ha; rw [ha] at h5; exact Nat.eq_of_beq_eq_true (by simpa using h5)

def fldsB (P : Program) : List Fld → List Field → Bool
  | [], [] => true
  | f :: fs, g :: gs => fldB P f g && fldsB P fs gs
  | _, _ => false

theorem fldsB_spec : ∀ {fs : List Fld} {gs : List Field}, fldsB P fs gs = true → gs.length = fs.length ∧ ∀ (i : Nat) f, fget fs i = some f → ∃ g, gs[i]? = some g ∧ FldOk P f g
  | [], [], _ => ⟨rfl, fun i f h => by simp [fget] at h⟩
  | f :: fs, g :: gs, h => by
    simp only [fldsB, Bool.and_eq_true] at h
    obtain ⟨h1, h2⟩ := fldsB_spec h.2
    refine ⟨by simp [h1], fun i f' hf => ?_⟩
    cases i with
    | zero =>
      simp only [fget, Option.some.injEq] at hf
      subst hf
      exact ⟨g, rfl, fldB_spec h.1⟩
    | succ i =>
      obtain ⟨g', k1, k2⟩ := h2 i f' hf
      exact ⟨g', by simpa using k1, k2⟩
  | [], _ :: _, h => by simp [fldsB] at h
  | _ :: _, [], h => by simp [fldsB] at h

def undB (P : Program) : Ty → TypeDesc → Bool
  | .int k, .int k' => decide (k = k')
  | .bool, .bool => true
  | .str, .string => true
  | .sl a, .slice b => Nat.beq a b
  | .ptr a, .pointer b => Nat.beq a b
  | .struct fs, .struct gs => fldsB P fs gs.toList
  | .arrT n a, .array m b => Nat.beq n m && Nat.beq a b
  | .other, _ => true
  | _, _ => false

def tyB (P : Program) (t : TypeId) (d : TyD) : Bool :=
  d.kn && (match P.info? t with
    | some i => Nat.beq i.size d.size && Nat.beq i.bytes d.bytes && (match i.zero with
      | some z => Nat.beq z.cells.size d.size && zeroB d.zero z && (match d.sh with | some s => rdB s s.dflt z.cells.toList && (s.agg == d.agg) && Nat.beq s.w d.size | none => true) && z.cells.toList.all (·.oneCell')
      | none => false)
    | none => false) &&
  (match P.underlying t with
    | some e => (aggD e == d.agg) && undB P d.ty e
    | none => false) && (d.agg || Nat.beq d.size 1)

theorem tyB_spec {t : TypeId} {d : TyD} (h : tyB P t d = true) : TyOk P t d := by
  simp only [tyB, Bool.and_eq_true] at h
  obtain ⟨⟨⟨hk, h1⟩, h2⟩, h3⟩ := h
  split at h1
  case h_2 => cases h1
  rename_i i hi
  simp only [Bool.and_eq_true] at h1
  obtain ⟨⟨a1, a2⟩, a3⟩ := h1
  split at a3
  case h_2 => cases a3
  rename_i z hz
  simp only [Bool.and_eq_true] at a3
  obtain ⟨⟨⟨b1, b2⟩, b3⟩, b4⟩ := a3
  split at h2
  case h_2 => cases h2
  rename_i e he
  simp only [Bool.and_eq_true] at h2
  refine ⟨⟨i, z, hi, Nat.eq_of_beq_eq_true a1, Nat.eq_of_beq_eq_true a2, hz, Nat.eq_of_beq_eq_true b1, zeroB_spec b2, ?_, ?_⟩, ⟨e, he, by cases e <;> simpa [aggD] using h2.1⟩, ?_, ?_, ?_⟩
  · intro s hs w U
    rw [hs] at b3
    simp only [Bool.and_eq_true] at b3
    exact rdB_spec b3.1.1 w U
  · intro u hu
    exact List.all_eq_true.1 b4 u (by simpa using hu)
  · have hu := h2.2
    obtain ⟨ty, size, bytes, sh, zero⟩ := d
    simp only at hu hk ⊢
    cases ty <;> cases e <;> first
      | (simp [undB] at hu; done)
      | (simp [TyD.kn] at hk; done)
      | exact he
      | trivial
      | (simp only [undB, decide_eq_true_eq] at hu; subst hu; exact he)
      | (have := Nat.eq_of_beq_eq_true hu; subst this; exact he)
      | (rename_i n a m b
         have h5 : (Nat.beq n m && Nat.beq a b) = true := hu
         rw [Bool.and_eq_true] at h5
         have h6 := Nat.eq_of_beq_eq_true h5.1
         have h7 := Nat.eq_of_beq_eq_true h5.2
         rw [h6, h7]; exact he)
      | (simp only [undB] at hu
         have h2 := fldsB_spec hu
         exact ⟨_, he, by simpa using h2.1, fun i f hf => by obtain ⟨g, k1, k2⟩ := h2.2 i f hf; exact ⟨g, by simpa using k1, k2⟩⟩)
  · intro s hs
    rw [hs] at b3
    simp only [Bool.and_eq_true] at b3
    exact ⟨by simpa using b3.1.2, Nat.eq_of_beq_eq_true b3.2⟩
  · intro ha
    rw [ha] at h3
    exact Nat.eq_of_beq_eq_true (by simpa using h3)

def tabB (P : Program) : List (Nat × TyD) → Bool
  | [] => true
  | (t, d) :: r => tyB P t d && tabB P r

theorem tabB_spec : ∀ {l : List (Nat × TyD)}, tabB P l = true → ∀ t, (tyGet l t).kn = true → TyOk P t (tyGet l t)
  | [], _, t, h => by simp [tyGet, TyD.kn] at h
  | (u, d) :: r, h, t, hk => by
    simp only [tabB, Bool.and_eq_true] at h
    simp only [tyGet] at hk ⊢
    cases hb : Nat.beq u t with
    | true =>
      have := Nat.eq_of_beq_eq_true hb
      subst this
      exact tyB_spec h.1
    | false =>
      rw [hb] at hk
      exact tabB_spec h.2 t hk

theorem tabB_kn : ∀ {l : List (Nat × TyD)}, tabB P l = true → ∀ t s, (tyGet l t).sh = some s → (tyGet l t).kn = true
  | [], _, t, s, h => by simp [tyGet] at h
  | (u, d) :: r, h, t, s, hs => by
    simp only [tabB, Bool.and_eq_true] at h
    simp only [tyGet] at hs ⊢
    cases hb : Nat.beq u t with
    | true => 
      have h1 := h.1
      simp only [tyB, Bool.and_eq_true] at h1
      exact h1.1.1.1
    | false =>
      rw [hb] at hs
      exact tabB_kn h.2 t s hs

theorem tab_ok {l : List (Nat × TyD)} (h : tabB P l = true) : TabOk P (tyGet l) := ⟨tabB_spec h, tabB_kn h⟩

/-! ## structs that are held against each other: fields of one cell -/

def eqFB (P : Program) : List Field → Sh → Nat → Bool
  | [], .unit, _ => true
  | f :: fs, .pair a b, off => !(f.name == "_") && Nat.beq f.offset off && (match P.underlying f.type, a with | some (.int _), .int _ => true | some .bool, .bool => true | some .string, .str => true | _, _ => false) && eqFB P fs b (off + 1)
  | _, _, _ => false

def eqB (P : Program) (t : TypeId) (d : TyD) : Bool :=
  match P.underlying t with
  | some (.struct fs) => !P.eqGuardType P.depth t && !P.stoodInHeld t && (match d.sh with | some s => eqFB P fs.toList s 0 | none => true)
  | _ => false

theorem part_one {t : TypeId} {e : TypeDesc} (h : P.underlying t = some e) (ha : aggD e = false) {cs : Array Value} {off : Nat} {v : Value} (hv : cs[off]? = some v) (w : World) : (part t cs off).run P w = .ok v w := by
  unfold part
  have : (isAgg t).run P w = .ok false w := by
    unfold isAgg
    rw [run_bind, run_underlying h]
    cases e <;> first | rfl | (simp [aggD] at ha)
  rw [run_bind, this]
  simp only [Bool.false_eq_true, if_false]
  rw [hv]
  rfl

theorem drop_get {xs : Array Value} {off : Nat} {v : Value} {r : List Value} (h : xs.toList.drop off = v :: r) : xs[off]? = some v ∧ xs.toList.drop (off + 1) = r := by
  constructor
  · have := congrArg (fun l => l[0]?) h
    simpa using this
  · have := congrArg List.tail h
    simpa [List.tail_drop] using this

theorem eqFields_ok {w : World} {U : Nat → Prop} {xs ys : Array Value} {d : Nat} : ∀ {fs : List Field} {s : Sh} {off : Nat} {x y : s.T} {cx cy : List Value} {b : Bool}, eqFB P fs s off = true → xs.toList.drop off = cx → ys.toList.drop off = cy → Rd w U s x cx → Rd w U s y cy → s.eqb x y = some b →
    (Op.eqFields (d + 1) xs ys fs).run P w = .ok b w
  | [], .unit, off, x, y, cx, cy, b, _, _, _, _, _, hb => by
    simp only [Sh.eqb, Option.some.injEq] at hb
    subst hb
    rfl
  | f :: fs, .pair a s, off, x, y, cx, cy, b, h, hx, hy, rx, ry, hb => by
    simp only [eqFB, Bool.and_eq_true, Bool.not_eq_true'] at h
    obtain ⟨⟨⟨h1, h2⟩, h3⟩, h4⟩ := h
    have h2' := Nat.eq_of_beq_eq_true h2
    simp only [Rd] at rx ry
    obtain ⟨cx1, cx2, rfl, rx1, rx2⟩ := rx
    obtain ⟨cy1, cy2, rfl, ry1, ry2⟩ := ry
    simp only [Sh.eqb] at hb
    have hn : f.name ≠ "_" := by
      intro e; rw [e] at h1; simp at h1
    simp only [Op.eqFields, if_pos hn]
    rw [h2']
    have fin : ∀ (va vb : Value) (e : TypeDesc) (p q : Bool), P.underlying f.type = some e → aggD e = false → cx1 = [va] → cy1 = [vb] → (Op.equalIn (d + 1) f.type va vb).run P w = .ok p w → s.eqb x.2 y.2 = some q → b = (p && q) →
        Sem.run P (do let a ← part f.type xs off; let b ← part f.type ys off; let r ← Op.equalIn (d + 1) f.type a b; if (!r) = true then pure false else Op.eqFields (d + 1) xs ys fs) w = .ok b w := by
      intro va vb e p q hu ha e1 e2 he hq hbq
      subst e1; subst e2
      obtain ⟨gx, kx⟩ := drop_get (r := cx2) hx
      obtain ⟨gy, ky⟩ := drop_get (r := cy2) hy
      rw [run_bind, part_one hu ha gx]
      simp only
      rw [run_bind, part_one hu ha gy]
      simp only
      rw [run_bind, he]
      simp only
      cases p with
      | false => subst hbq; rfl
      | true =>
        subst hbq
        simp only [Bool.not_true, Bool.false_eq_true, if_false, Bool.true_and]
        exact eqFields_ok h4 kx ky rx2 ry2 hq
    split at h3
    · rename_i k k' hu
      simp only [Rd] at rx1 ry1
      simp only [Sh.eqb] at hb
      split at hb
      · rename_i p q hp hq
        simp only [Option.some.injEq] at hp hb
        subst hp; subst hb
        refine fin _ _ _ _ q hu rfl rx1 ry1 (run_equalIn_int w _ _ _ _ _ _ hu) hq ?_
        first | rfl | (congr 1)
      · cases hb
    · rename_i hu
      simp only [Rd] at rx1 ry1
      simp only [Sh.eqb] at hb
      split at hb
      · rename_i p q hp hq
        simp only [Option.some.injEq] at hp hb
        subst hp; subst hb
        exact fin _ _ _ _ q hu rfl rx1 ry1 (run_equalIn_bool' w _ _ _ _ hu) hq rfl
      · cases hb
    · rename_i hu
      simp only [Rd] at rx1 ry1
      simp only [Sh.eqb] at hb
      split at hb
      · rename_i p q hp hq
        simp only [Option.some.injEq] at hp hb
        subst hp; subst hb
        exact fin _ _ _ _ q hu rfl rx1 ry1 (run_equalIn_string w _ _ _ _ hu) hq rfl
      · cases hb
    · cases h3
  | [], .int _, _, _, _, _, _, _, h, _, _, _, _, _ | [], .bool, _, _, _, _, _, _, h, _, _, _, _, _ | [], .str, _, _, _, _, _, _, h, _, _, _, _, _
  | [], .pair _ _, _, _, _, _, _, _, h, _, _, _, _, _ | [], .sl _, _, _, _, _, _, _, h, _, _, _, _, _ => by simp [eqFB] at h
  | _ :: _, .int _, _, _, _, _, _, _, h, _, _, _, _, _ | _ :: _, .bool, _, _, _, _, _, _, h, _, _, _, _, _ | _ :: _, .str, _, _, _, _, _, _, h, _, _, _, _, _
  | _ :: _, .unit, _, _, _, _, _, _, h, _, _, _, _, _ | _ :: _, .sl _, _, _, _, _, _, _, h, _, _, _, _, _ => by simp [eqFB] at h

theorem eq_ok {t : TypeId} {d : TyD} (h : eqB P t d = true) : EqOk P t d := by
  unfold eqB at h
  split at h
  case h_2 => cases h
  rename_i fs hu
  simp only [Bool.and_eq_true, Bool.not_eq_true'] at h
  intro s hs w U x y cx cy b rx ry hb
  rw [hs] at h
  refine ⟨run_eqGuard_agg w .eql t _ _ _ _ h.1.1, ?_⟩
  have hf : P.fieldsOf t = fs := by simp [Program.fieldsOf, hu]
  have e : Op.maxDepth = 9998 + 1 + 1 := rfl
  unfold Op.equal
  rw [e, run_equalIn_struct (P := P) w (9998 + 1) t _ _ (by rw [hf]; exact hu) h.1.2, hf]
  exact eqFields_ok h.2 (by simp) (by simp) rx ry hb

def eqsB (P : Program) (ty : TypeId → TyD) : List Nat → Bool
  | [] => true
  | t :: r => eqB P t (ty t) && eqsB P ty r

theorem eqsB_spec {ty : TypeId → TyD} : ∀ {l : List Nat}, eqsB P ty l = true → ∀ t, mem t l = true → EqOk P t (ty t)
  | [], _, t, h => by simp [mem] at h
  | u :: r, h, t, hm => by
    simp only [eqsB, Bool.and_eq_true] at h
    simp only [mem] at hm
    cases hb : Nat.beq u t with
    | true =>
      have := Nat.eq_of_beq_eq_true hb
      subst this
      exact eq_ok h.1
    | false =>
      rw [hb] at hm
      exact eqsB_spec h.2 t hm

end Go.Proofs.Ytcipegkeoheikaa.Dx
/- What is printed for each function is put together by these. -/
namespace Go.Proofs.Ytcipegkeoheikaa.Dx
open Go

variable {R : Type} {P : Program}

abbrev FnT (R : Type) := List V → List (Option Row) → (List V → List (Option Row) → Option R) → Option R

/-- All that are called are told soundly. -/
def CsOk (P : Program) (C : FuncId → FnT R) : Prop := ∀ g, FnOk P g (C g)

theorem CsOk.nil : CsOk P (fun _ _ _ _ => (none : Option R)) := fun _ _ _ _ _ h => by cases h

theorem CsOk.cons {i : FuncId} {c : FnT R} {C : FuncId → FnT R} (h : FnOk P i c) (hC : CsOk P C) : CsOk P (fun g args rows K => cnd (Nat.beq g i) (c args rows K) (C g args rows K)) := by
  intro g vs rin K r hk
  simp only at hk ⊢
  cases hb : Nat.beq g i with
  | true =>
    have := Nat.eq_of_beq_eq_true hb
    subst this
    rw [hb] at hk
    exact h vs rin K r hk
  | false =>
    rw [hb] at hk
    exact hC g vs rin K r hk

def FnsOk (P : Program) (l : List Nat) : Prop := ∀ f, mem f l = true → ∀ args w, (callFunc f args).run P w = .ok (.enter f args) w
theorem FnsOk.nil : FnsOk P [] := fun f h => by simp [mem] at h
theorem FnsOk.cons {i : Nat} {l : List Nat} (h : ∀ args w, (callFunc i args).run P w = .ok (.enter i args) w) (hl : FnsOk P l) : FnsOk P (i :: l) := by
  intro f hf
  simp only [mem] at hf
  cases hb : Nat.beq i f with
  | true =>
    have := Nat.eq_of_beq_eq_true hb
    subst this
    exact h
  | false =>
    rw [hb] at hf
    exact hl f hf

/-- What is known of a program's tables. -/
structure Base (P : Program) (ty : TypeId → TyD) (eqt : TypeId → Bool) (fnOk : FuncId → Bool) : Prop where
  tab : TabOk P ty
  eq : ∀ t, eqt t = true → EqOk P t (ty t)
  fn : ∀ f, fnOk f = true → ∀ args w, (callFunc f args).run P w = .ok (.enter f args) w
  mix : P.follows .mixedOrders = true

theorem Base.mk' {tl : List (Nat × TyD)} {el fl : List Nat} (h1 : tabB P tl = true) (h2 : eqsB P (tyGet tl) el = true) (h3 : FnsOk P fl) (h4 : P.follows .mixedOrders = true) : Base P (tyGet tl) (fun t => mem t el) (fun f => mem f fl) :=
  ⟨tab_ok h1, fun t ht => eqsB_spec h2 t ht, h3, h4⟩

theorem snd_of {X : Ctx R} (hB : Base P X.ty X.eqt X.fnOk) (hC : CsOk P X.C) : Snd P X where
  ctx := ⟨hB.tab, hB.eq⟩
  fn := hB.fn
  C f vs rin K r _ hk := by
    obtain ⟨res, out, h1, h2⟩ := hC f vs rin K r hk
    exact ⟨res, out, (h1 K).symm.trans hk, h2⟩

theorem det_of {X : Ctx R} (hC : CsOk P X.C) : DetC X := by
  intro f vs rin
  by_cases h : ∃ (K : List V × List (Option Row) → Option R) (r : R), X.C f vs rin (fun a b => K (a, b)) = some r
  · obtain ⟨K, r, h⟩ := h
    obtain ⟨res, out, h1, _⟩ := hC f vs rin _ r h
    exact .inr ⟨(res, out), fun K => h1 _⟩
  · refine .inl fun K => ?_
    cases hk : X.C f vs rin (fun a b => K (a, b)) with
    | none => exact hk
    | some r => exact absurd ⟨K, r, hk⟩ h

section
variable {X : Ctx R} {n : Nat} {body : Code} {tbl : List (Nat × List Nat)}

/-- A loop, printed. -/
theorem TblOk.loop (hB : Base P X.ty X.eqt X.fnOk) (hC : CsOk P X.C) {i F : Nat} {p live : List Nat} {co : List (Nat × TypeId × Sh)} {c : Code} {ac : AC} (Lf : Nat → St → Conts R) (hp : subC p body = .loop c) (hc : checkB tbl n c ac (napp p [0]) = true)
    (h0 : ∀ s kn ex kr, Lf 0 s kn ex kr = none)
    (hS : ∀ k s, (∀ kn ex kr, Lf (k + 1) s kn ex kr = none) ∨ ∀ kn ex kr, Lf (k + 1) s kn ex kr = ev X c ac (fun s' => canonK live co s' fun s'' => Lf k s'' kn ex kr) ex kr s)
    (hL : ∀ s kn ex kr, X.L i s kn ex kr = Lf F s kn ex kr) (ht : TblOk P X n body tbl) : TblOk P X n body ((i, p) :: tbl) :=
  .cons (loop_ok (snd_of hB hC) (det_of hC) hB.mix ht hp hc h0 hS hL) ht

/-- What stands behind a cut, printed. -/
theorem TblOk.behind (hB : Base P X.ty X.eqt X.fnOk) (hC : CsOk P X.C) {i : Nat} {p live : List Nat} {co : List (Nat × TypeId × Sh)} {c : Code} {ac : AC} (Lf : St → Conts R) (hp : subC p body = c) (hc : checkB tbl n c ac p = true)
    (hS : ∀ s, (∀ kn ex kr, Lf s kn ex kr = none) ∨ ∀ kn ex kr, Lf s kn ex kr = ev X c ac (fun s' => canonK live co s' kn) ex kr s)
    (hL : ∀ s kn ex kr, X.L i s kn ex kr = Lf s kn ex kr) (ht : TblOk P X n body tbl) : TblOk P X n body ((i, p) :: tbl) :=
  .cons (behind_ok (snd_of hB hC) (det_of hC) hB.mix ht hp hc hS hL) ht

theorem TblOk.dead {i : Nat} {p : List Nat} (hL : ∀ s kn ex kr, X.L i s kn ex kr = none) (ht : TblOk P X n body tbl) : TblOk P X n body ((i, p) :: tbl) :=
  .cons (fun s kn ex kr r h => absurd ((hL s kn ex kr).symm.trans h) (by simp)) ht

theorem dec_zero {p s : St} : p.dec (R := R) s (fun _ => none) = none := by
  rcases St.dec_spec (R := R) p s with h | ⟨x, _, h⟩
  · exact h _
  · exact h _

/-- A function, printed. -/
theorem fnP_ok (hB : Base P X.ty X.eqt X.fnOk) (hC : CsOk P X.C) {f : FuncId} {fn : Func} (hf : P.funcs[f]? = some fn) {c : Code} (hb : fn.body = some c) (ht : TblOk P X fn.ntmps c tbl)
    {ac : AC} {rms : List RM} (hc : checkB tbl fn.ntmps c ac [] = true) {pa : List V} {pr : List (Option Row)} {g : PTl pa → PTr pr → (List V → List (Option Row) → Option R) → Option R} (hn : Nat.ble (vlen pa) fn.ntmps = true)
    (hg : ∀ x y K, g x y K = evFn X fn.results.toList rms c ac (encl pa x) (encr pr y) K) : FnOk P f (fun vs rows K => decl pa vs fun x => decr pr rows fun y => g x y K) := by
  have hvl : ∀ l : List V, vlen l = l.length := by
    intro l; induction l with
    | nil => rfl
    | cons a t ih => simp [vlen, ih]
  refine fn_ok (rms := rms) (snd_of hB hC) (det_of hC) hB.mix hf hb rfl ht hc (np := pa.length) (by have := Nat.le_of_ble_eq_true hn; rwa [hvl] at this) fun vs rows => ?_
  rcases decf_or (R := R) hg vs rows with h | ⟨⟨x, rfl⟩, h⟩
  · exact .inl h
  · exact .inr ⟨encl_length _ _, h⟩
end

end Go.Proofs.Ytcipegkeoheikaa.Dx
/- The arguments of a statement, of any type of numbers, truth values, strings, structs and slices, opened to closed values. -/
namespace Go.Proofs.Ytcipegkeoheikaa.Dx
open Go Go.RowKit

/-- What is known of an argument: numbers in the range of their kind, lengths. -/
def Wf : (s : Sh) → s.T → Prop
  | .int k, x => k.min ≤ x ∧ x ≤ k.max
  | .bool, _ => True
  | .str, x => (show ByteArray from x).size ≤ maxLen
  | .unit, _ => True
  | .pair a b, x => Wf a x.1 ∧ Wf b x.2
  | .sl s, l => List.length l ≤ maxLen ∧ ∀ x, x ∈ (show List s.T from l) → Wf s x

mutual
/-- The shape begins with the cells of this type; what is left of it. -/
def splitB (P : Program) : Nat → TypeId → Sh → Option Sh
  | 0, _, _ => none
  | n + 1, t, s =>
    match P.underlying t with
    | some .bool => (match s with | .pair .bool r => some r | _ => none)
    | some (.int k) => (match s with | .pair (.int k') r => if k = k' then some r else none | _ => none)
    | some .string => (match s with | .pair .str r => some r | _ => none)
    | some (.slice e) => (match s with
      | .pair (.sl q) r => cnd (Nat.beq (P.cellsOf e) q.w && Nat.blt 0 q.w) (match q.agg with
        | true => (match splitB P n e q with | some .unit => some r | _ => none)
        | false => (match splitB P n e (.pair q .unit) with | some .unit => some r | _ => none)) none
      | _ => none)
    | some (.struct fs) => splitFs P n fs.toList s 0 (P.cellsOf t)
    | _ => none
def splitFs (P : Program) : Nat → List Field → Sh → Nat → Nat → Option Sh
  | 0, _, _, _, _ => none
  | _ + 1, [], s, off, tot => cnd (Nat.beq off tot) (some s) none
  | n + 1, f :: fs, s, off, tot => cnd (Nat.beq f.offset off) (match splitB P n f.type s with
    | some r => splitFs P n fs r (off + P.cellsOf f.type) tot
    | none => none) none
end

section
variable {H : Type} {enc : TypeId × Value → H} {P : Program} {W : World} {sp : Nat → Bool} {held : Bool}

theorem take_drop_add (cs : List Value) (o n : Nat) : (cs.drop o).take n ++ cs.drop (o + n) = cs.drop o := by
  rw [← List.drop_drop, List.take_append_drop]

/-- Elements side by side in a block. -/
theorem elems_rd {e : TypeId} {q : Sh} (hq : 0 < q.w) (hc : P.cellsOf e = q.w) {a : Addr} {len cap m : Nat} (hl : len ≤ cap) (hcap : cap ≤ maxLen) (hlm : len ≤ m)
    (h : ∀ i, i < m → ∃ cs', W.cells? 0 (a.add (i * P.cellsOf e)) (P.cellsOf e) = some cs' ∧ ∃ x : q.T, Rd W (fun b => b < W.heap.size) q x cs' ∧ Wf q x) :
    ∃ x : (Sh.sl q).T, Rd W (fun b => b < W.heap.size) (.sl q) x [.slice (some a) len cap] ∧ Wf (.sl q) x := by
  classical
  have h' : ∀ i, i < len → ∃ x : q.T, ∃ cs', W.cells? 0 (a.add (i * P.cellsOf e)) (P.cellsOf e) = some cs' ∧ Rd W (fun b => b < W.heap.size) q x cs' ∧ Wf q x := by
    intro i hi
    obtain ⟨cs', h1, x, h2, h3⟩ := h i (by omega)
    exact ⟨x, cs', h1, h2, h3⟩
  obtain ⟨X, hX⟩ : ∃ X : Nat → q.T, ∀ i, i < len → ∃ cs', W.cells? 0 (a.add (i * P.cellsOf e)) (P.cellsOf e) = some cs' ∧ Rd W (fun b => b < W.heap.size) q (X i) cs' ∧ Wf q (X i) := by
    by_cases h0 : len = 0
    · exact ⟨fun _ => q.dflt, fun i hi => by omega⟩
    · obtain ⟨x0, _⟩ := h' 0 (by omega)
      exact ⟨fun i => if hi : i < len then Classical.choose (h' i hi) else x0, fun i hi => by simp only [hi, dite_true]; exact Classical.choose_spec (h' i hi)⟩
  refine ⟨(List.range len).map X, ?_, ?_, ?_⟩
  · simp only [Rd]
    refine ⟨some a, cap, by simp, by simpa using hl, (by intro h; cases h), ?_⟩
    by_cases h0 : len = 0
    · left; subst h0; rfl
    right
    obtain ⟨cs0, g1, g2, g3⟩ := hX 0 (by omega)
    obtain ⟨_, k2, k3⟩ := World.cells?_some g1
    have k0 := k3 0 (by omega)
    have hlen0 : 0 < cs0.length := by omega
    simp only [Nat.zero_mul, Addr.add, if_true] at k0
    rw [List.getElem?_eq_getElem hlen0] at k0
    unfold World.cell? at k0
    split at k0
    case h_2 => cases k0
    rename_i C _ _ hblk
    split at k0
    · cases k0
    rename_i hspot
    obtain ⟨b, o, spot⟩ := a
    simp only at hblk hspot
    have hs : spot = none := by cases spot with | none => rfl | some x => simp at hspot
    subst hs
    have hb : b < W.heap.size := by
      rcases Nat.lt_or_ge b W.heap.size with h | h
      · exact h
      · rw [Array.getElem?_eq_none h] at hblk; cases hblk
    refine ⟨b, o, C, rfl, hb, by unfold blk; rw [hblk], ?_⟩
    intro i hi
    have hi' : i < len := by simpa using hi
    obtain ⟨cs', p1, p2, p3⟩ := hX i hi'
    refine ⟨cs', by simpa using p2, fun j hj => ?_⟩
    obtain ⟨_, q2, q3⟩ := World.cells?_some p1
    have := q3 j (by omega)
    rw [← this]
    rw [hc]
    have e1 : ((⟨b, o, none⟩ : Addr).add (i * q.w)).add j = ⟨b, o + i * q.w + j, none⟩ := by
      unfold Addr.add
      by_cases z1 : i * q.w = 0 <;> by_cases z2 : j = 0 <;> simp [z1, z2]
    rw [e1]
    unfold World.cell?
    simp only
    rw [hblk]
    simp
  · simp only [List.length_map, List.length_range]; omega
  · intro x hx
    obtain ⟨i, hi, rfl⟩ := List.mem_map.1 hx
    obtain ⟨_, _, _, h3⟩ := hX i (by simpa using hi)
    exact h3

mutual
theorem split_open : ∀ (n : Nat) (t : TypeId) (s r : Sh), splitB P n t s = some r → ∀ (m : Nat) (cs : List Value) (x : DataW H × List MemPlace), DataW.trod enc P W 0 sp held m t cs = some x →
    ∀ (y : r.T) (cs2 : List Value), Rd W (fun b => b < W.heap.size) r y cs2 → Wf r y → ∃ z : s.T, Rd W (fun b => b < W.heap.size) s z (cs ++ cs2) ∧ Wf s z
  | 0, _, _, _, h => by simp [splitB] at h
  | n + 1, t, s, r, h => by
    intro m cs x hx y cs2 hy wy
    unfold splitB at h
    split at h
    · rename_i hu
      split at h
      · simp only [Option.some.injEq] at h
        subst h
        obtain ⟨b, rfl, _⟩ := DataW.trod_bool hu hx
        exact ⟨(b, y), ⟨_, _, rfl, rfl, hy⟩, trivial, wy⟩
      · cases h
    · rename_i k hu
      split at h
      · split at h
        · rename_i hk
          simp only [Option.some.injEq] at h
          subst h; subst hk
          obtain ⟨b, rfl, _, hwf⟩ := DataW.trod_int hu hx
          refine ⟨(b, y), ⟨_, _, rfl, rfl, hy⟩, ?_, wy⟩
          simp only [Lit.wf, Bool.and_eq_true, decide_eq_true_eq] at hwf
          exact hwf
        · cases h
      · cases h
    · rename_i hu
      split at h
      · simp only [Option.some.injEq] at h
        subst h
        obtain ⟨b, rfl, _, hs⟩ := DataW.trod_string hu hx
        exact ⟨(b, y), ⟨_, _, rfl, rfl, hy⟩, hs, wy⟩
      · cases h
    · rename_i e hu
      split at h
      case h_2 => cases h
      rename_i q r'
      obtain ⟨hc, h⟩ := cnd_some h
      simp only [Bool.and_eq_true] at hc
      have hc1 := Nat.eq_of_beq_eq_true hc.1
      have hc2 : 0 < q.w := Nat.le_of_ble_eq_true hc.2
      -- one element
      have el : (∀ {m : Nat} {cs : List Value} {x : DataW H × List MemPlace}, DataW.trod enc P W 0 sp held m e cs = some x → ∃ z : q.T, Rd W (fun b => b < W.heap.size) q z cs ∧ Wf q z) ∧ r' = r := by
        split at h
        · split at h
          · rename_i hsp
            simp only [Option.some.injEq] at h
            refine ⟨fun hx => ?_, h⟩
            obtain ⟨z, h1, h2⟩ := split_open n e q .unit hsp _ _ _ hx () [] rfl trivial
            exact ⟨z, by simpa using h1, h2⟩
          · cases h
        · split at h
          · rename_i hsp
            simp only [Option.some.injEq] at h
            refine ⟨fun hx => ?_, h⟩
            obtain ⟨z, h1, h2⟩ := split_open n e (.pair q .unit) .unit hsp _ _ _ hx () [] rfl trivial
            simp only [Rd] at h1
            obtain ⟨c1, c2, e1, e2, e3⟩ := h1
            subst e3
            simp only [List.append_nil] at e1
            subst e1
            exact ⟨z.1, e2, h2.1⟩
          · cases h
      obtain ⟨el, rfl⟩ := el
      rcases Deep.open_slice hu hx with ⟨rfl, rfl⟩ | ⟨a, len, cap, mm, k, D, Pl, rfl, _, hl, hcap, hm, _, hel⟩
      · refine ⟨(([] : List q.T), y), ⟨_, _, rfl, ?_, hy⟩, ⟨?_, ?_⟩, wy⟩
        · simp only [Rd]
          exact ⟨none, 0, rfl, Nat.le_refl _, fun _ => rfl, by simp⟩
        · exact Nat.zero_le _
        · intro x hx; cases hx
      · have hlm : len ≤ mm := by rw [hm]; split <;> omega
        obtain ⟨z, h1, h2⟩ := elems_rd (e := e) hc2 hc1 hl hcap hlm (fun i hi => by
          obtain ⟨cs', p1, p2⟩ := hel i hi
          obtain ⟨z, p3⟩ := el p2
          exact ⟨cs', p1, z, p3⟩)
        exact ⟨(z, y), ⟨_, _, rfl, h1, hy⟩, h2, wy⟩
    · rename_i fs hu
      obtain ⟨xs, k, _, _, hlen, hxl, hf⟩ := DataW.trod_struct hu hx
      obtain ⟨z, h1, h2⟩ := splitFs_open n fs.toList s r 0 (P.cellsOf t) h cs hlen k (fun f hfm => by
        obtain ⟨i, hi⟩ := List.getElem?_of_mem hfm
        have hi' : fs[i]? = some f := by simpa using hi
        have := hf i f hi'
        have hlt : i < fs.size := by
          rcases Nat.lt_or_ge i fs.size with h | h
          · exact h
          · rw [Array.getElem?_eq_none h] at hi'; cases hi'
        rw [List.getElem?_eq_getElem (by omega)] at this
        exact ⟨_, this⟩) y cs2 hy wy
      exact ⟨z, by simpa using h1, h2⟩
    · cases h
theorem splitFs_open : ∀ (n : Nat) (fs : List Field) (s r : Sh) (off tot : Nat), splitFs P n fs s off tot = some r → ∀ (cs : List Value), cs.length = tot → ∀ (m : Nat), (∀ f, f ∈ fs → ∃ x, DataW.trod enc P W 0 sp held m f.type ((cs.drop f.offset).take (P.cellsOf f.type)) = some x) →
    ∀ (y : r.T) (cs2 : List Value), Rd W (fun b => b < W.heap.size) r y cs2 → Wf r y → ∃ z : s.T, Rd W (fun b => b < W.heap.size) s z (cs.drop off ++ cs2) ∧ Wf s z
  | 0, _, _, _, _, _, h => by simp [splitFs] at h
  | n + 1, [], s, r, off, tot, h => by
    intro cs hl m _ y cs2 hy wy
    simp only [splitFs] at h
    obtain ⟨hb, h⟩ := cnd_some h
    have := Nat.eq_of_beq_eq_true hb
    simp only [Option.some.injEq] at h
    subst h
    rw [List.drop_eq_nil_of_le (by omega)]
    exact ⟨y, hy, wy⟩
  | n + 1, f :: fs, s, r, off, tot, h => by
    intro cs hl m hf y cs2 hy wy
    simp only [splitFs] at h
    obtain ⟨hb, h⟩ := cnd_some h
    have hoff := Nat.eq_of_beq_eq_true hb
    split at h
    case h_2 => cases h
    rename_i r' hsp
    obtain ⟨z, h1, h2⟩ := splitFs_open n fs r' r _ tot h cs hl m (fun g hg => hf g (by simp [hg])) y cs2 hy wy
    obtain ⟨x, hx⟩ := hf f (by simp)
    rw [hoff] at hx
    obtain ⟨z', h3, h4⟩ := split_open n f.type s r' hsp _ _ _ hx z _ h1 h2
    refine ⟨z', ?_, h4⟩
    rw [← List.append_assoc, take_drop_add] at h3
    exact h3
end

/-- A value of this type has this shape. -/
def isB (P : Program) (t : TypeId) (s : Sh) : Bool :=
  match s.agg with
  | true => (match splitB P 20 t s with | some .unit => (match P.underlying t with | some (.struct _) => true | _ => false) | _ => false)
  | false => (match splitB P 20 t (.pair s .unit) with | some .unit => (match P.underlying t with | some (.struct _) => false | some (.array _ _) => false | _ => true) | _ => false)

/-- The memory at a call of the statement. -/
def Mem.start (W : World) : Mem := { w := W, rows := [], α := fun _ => (none, 0), U := fun b => b < W.heap.size, B := W.heap.size, I := fun _ => False }

theorem start_ok (W : World) : MemOk W (Mem.start W) where
  size := Nat.le_refl _
  size0 := rfl
  old _ _ _ := rfl
  os := rfl
  tape := rfl
  output := rfl
  disj b hb := ⟨hb, fun h => h⟩
  body k r h := by simp [Mem.start, rget] at h
  plain k r b h := by simp [Mem.start, rget] at h
  froz k r b h := by simp [Mem.start, rget] at h
  sep k k' r r' b h := by simp [Mem.start, rget] at h

theorem Rd.start {s : Sh} {x : s.T} {cs : List Value} (h : Rd W (fun b => b < W.heap.size) s x cs) : Rd (Mem.start W).w (Mem.start W).Ut s x cs :=
  Rd.mono (fun _ hb => .inl hb) (fun _ _ => rfl) h

/-- An argument opened. -/
theorem arg_open {t : TypeId} {s : Sh} (hs : isB P t s = true) {r : Reach} {b0 : Nat} {v : Value} {d : DataW H} {ps : List MemPlace} (hval : Value.okWide P W r b0 t v) (hd : DataW.Trod enc P W 0 sp held t v d ps) :
    ∃ x : s.T, Wf s x ∧ VR (Mem.start W) (.val s x) v := by
  obtain ⟨m, hm⟩ := hd
  unfold isB at hs
  split at hs
  · rename_i hag
    split at hs
    case h_2 => cases hs
    rename_i hsp
    split at hs
    case h_2 => cases hs
    rename_i fs hu
    obtain ⟨z, h1, h2⟩ := split_open 20 t s .unit hsp _ _ _ hm () [] rfl trivial
    simp only [Value.okWide, hu] at hval
    obtain ⟨cs, rfl, _⟩ := hval
    refine ⟨z, h2, ?_⟩
    simp only [VR, VRL, hag, if_true]
    exact ⟨cs.toList, Rd.start (by simpa [Value.cells] using h1), by simp⟩
  · rename_i hag
    split at hs
    case h_2 => cases hs
    rename_i hsp
    obtain ⟨z, h1, h2⟩ := split_open 20 t (.pair s .unit) .unit hsp _ _ _ hm () [] rfl trivial
    simp only [Rd] at h1
    obtain ⟨c1, c2, e1, e2, e3⟩ := h1
    subst e3
    simp only [List.append_nil] at e1
    subst e1
    refine ⟨z.1, h2.1, ?_⟩
    have hv : v.cells.toList = [v] := by
      split at hs
      · cases hs
      · cases hs
      · rename_i hn1 hn2
        have hcell : Cell.okWide P W r b0 t v := by
          unfold Value.okWide at hval
          split at hval
          · rename_i fs hu; exact absurd hu (hn1 fs)
          · rename_i k e hu; exact absurd hu (hn2 k e)
          · exact hval
        cases v with
        | agg cs =>
          exfalso
          unfold Cell.okWide at hcell
          split at hcell <;> simp_all [Cell.ok]
        | _ => rfl
    rw [hv] at e2
    simp only [VR, VRL, hag]
    exact Rd.start e2

/-- What a call leaves of the memory of before. -/
theorem start_below {w' : World} {out : List (Option Row)} {α' : Nat → Loc} (h : MemOk W ((Mem.start W).to w' out α')) : Below W.heap.size W w' :=
  ⟨h.os, h.tape, h.output, h.size, fun k hk => h.old k hk fun hc => hc⟩

/-! ## the statement's call -/

def okK (res : List V) (_ : List (Option Row)) : Option Unit :=
  match res with
  | [v] => asSh .bool v fun b => cond b (some ()) none
  | _ => none

theorem law_calls {f : FuncId} {fc : FnT Unit} (hok : FnOk P f fc) {vs : List V} {us : List Value} (hk : fc vs [] okK = some ()) (hv : VS (Mem.start W) vs us) :
    Calls P f us.toArray W fun e w' => e = .returned (.bool true) ∧ Below W.heap.size W w' := by
  obtain ⟨res, out, h1, h2⟩ := hok vs [] okK () hk
  have h3 : okK res out = some () := (h1 okK).symm.trans hk
  have hres : res = [.val .bool true] := by
    unfold okK at h3
    split at h3
    · obtain ⟨b, rfl, hb⟩ := asSh_some h3
      cases b with
      | true => rfl
      | false => simp at hb
    · cases h3
  subst hres
  refine (h2 (Mem.start W) us (start_ok W) rfl hv).mono ?_
  rintro e w' ⟨vs', α', rfl, a1, a2, _, _⟩
  refine ⟨?_, start_below a1⟩
  cases a2 with
  | cons b1 b2 =>
    cases b2
    rw [VR.val_bool b1]
    rfl
end

end Go.Proofs.Ytcipegkeoheikaa.Dx

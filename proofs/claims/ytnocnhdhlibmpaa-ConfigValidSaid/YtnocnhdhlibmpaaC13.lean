/- Configurations: what follows, in lists. -/
import Derived.Test.YtnocnhdhlibmpaaC12
set_option linter.unusedVariables false
set_option linter.unusedSimpArgs false
namespace Go.Proofs.Ytnocnhdhlibmpaa.C
theorem mem_outs {m l : List Int} {x : Int} : x ∈ outs m l ↔ x ∈ l ∧ x ∉ m := by simp [outs]
theorem outs_srt {m l : List Int} (h : l.Pairwise (· < ·)) : (outs m l).Pairwise (· < ·) := h.sublist List.filter_sublist
inductive Way (l : List Int) (x : Cm) : List Int → Prop
  | add (ho : x.op = 7) (hn : 0 ≤ x.a ∧ x.a ≤ 31) (ha : x.a ∉ l) (h7 : l.length < 7) : Way l x (ins l x.a)
  | remove (ho : x.op = 8) (ha : x.a ∈ l) (h1 : l.length ≠ 1) : Way l x (wo l x.a)
  | replace (ho : x.op = 9) (ha : x.a ∈ l) (hn : 0 ≤ x.b ∧ x.b ≤ 31) (hb : x.b ∉ l) : Way l x (ins (wo l x.a) x.b)
structure Chg (e : Int) (l : List Int) (x : Cm) (f : Int) (m : List Int) : Prop where
  vd : Vd e l
  ne : e ≠ 1048576
  hf : f = e + 1
  way : Way l x m
theorem change_cases (e : Int) (l : List Int) (x : Cm) : (∃ f m, changeV e l x = ((f, m), 0) ∧ Chg e l x f m) ∨ ∃ z, z ≠ 0 ∧ changeV e l x = ((0, []), z) := by
  unfold changeV
  by_cases h : (x.op = 7 ∨ x.op = 8 ∨ x.op = 9) ∧ validB e l = true ∧ e ≠ 1048576
  · rw [if_pos h]
    obtain ⟨ho, hv, he⟩ := h
    by_cases o7 : x.op = 7
    · have hc : chV l x = addV l x.a := by simp [chV, o7]
      rw [hc]
      by_cases an : nodeB x.a = false
      · right; exact ⟨1, by decide, by simp [addV, an]⟩
      by_cases am : x.a ∈ l
      · right; exact ⟨3, by decide, by simp [addV, an, am]⟩
      by_cases a7 : 7 ≤ l.length
      · right; exact ⟨7, by decide, by simp [addV, an, am, a7]⟩
      have an' : nodeB x.a = true := by simpa using an
      left
      exact ⟨e + 1, ins l x.a, by simp [addV, an, am, a7], valid_iff.1 hv, he, rfl, .add o7 (node_iff.1 an') am (by omega)⟩
    by_cases o8 : x.op = 8
    · have hc : chV l x = removeV l x.a := by simp [chV, o8]
      rw [hc]
      by_cases am : x.a ∈ l
      · by_cases a1 : l.length = 1
        · right; exact ⟨4, by decide, by simp [removeV, am, a1]⟩
        · left; exact ⟨e + 1, wo l x.a, by simp [removeV, am, a1], valid_iff.1 hv, he, rfl, .remove o8 am a1⟩
      · right; exact ⟨2, by decide, by simp [removeV, am]⟩
    have o9 : x.op = 9 := by omega
    have hc : chV l x = replaceV l x.a x.b := by simp [chV, o9]
    rw [hc]
    by_cases am : x.a ∈ l
    · by_cases bn : nodeB x.b = false
      · right; exact ⟨1, by decide, by simp [replaceV, am, bn]⟩
      by_cases bm : x.b ∈ l
      · right; exact ⟨3, by decide, by simp [replaceV, am, bn, bm]⟩
      have bn' : nodeB x.b = true := by simpa using bn
      left
      exact ⟨e + 1, _, by simp [replaceV, am, bn, bm], valid_iff.1 hv, he, rfl, .replace o9 am (node_iff.1 bn') bm⟩
    · right; exact ⟨2, by decide, by simp [replaceV, am]⟩
  · rw [if_neg h]
    right; exact ⟨1, by decide, rfl⟩
theorem change_of {e : Int} {l : List Int} {x : Cm} {f : Int} {m : List Int} (c : Chg e l x f m) : changeV e l x = ((f, m), 0) := by
  obtain ⟨vd, ne, rfl, way⟩ := c
  have hv := valid_iff.2 vd
  unfold changeV
  cases way with
  | add ho hn ha h7 =>
    have hn := node_iff.2 hn
    rw [if_pos ⟨.inl ho, hv, ne⟩]
    simp [chV, ho, addV, hn, ha, show ¬ 7 ≤ l.length by omega]
  | remove ho ha h1 =>
    rw [if_pos ⟨.inr (.inl ho), hv, ne⟩]
    simp [chV, ho, removeV, ha, h1]
  | replace ho ha hn hb =>
    have hn := node_iff.2 hn
    rw [if_pos ⟨.inr (.inr ho), hv, ne⟩]
    simp [chV, ho, replaceV, ha, hn, hb]
/-- What went and what came. -/
theorem Way.mem {l m : List Int} {x : Cm} (w : Way l x m) (h : l.Pairwise (· < ·)) (y : Int) : y ∈ m ↔ (x.op = 7 ∧ (y = x.a ∨ y ∈ l)) ∨ (x.op = 8 ∧ y ≠ x.a ∧ y ∈ l) ∨ (x.op = 9 ∧ (y = x.b ∨ y ≠ x.a ∧ y ∈ l)) := by
  cases w with
  | add ho hn ha h7 => rw [mem_ins]; simp [ho]
  | remove ho ha h1 => rw [mem_wo h]; simp [ho]
  | replace ho ha hn hb => rw [mem_ins, mem_wo h]; simp [ho]
theorem Way.srt {l m : List Int} {x : Cm} (w : Way l x m) (h : l.Pairwise (· < ·)) : m.Pairwise (· < ·) := by
  cases w with
  | add ho hn ha h7 => exact ins_srt h ha
  | remove ho ha h1 => exact wo_rises h _
  | replace ho ha hn hb => exact ins_srt (wo_rises h _) fun q => hb ((mem_wo h).1 q).2
theorem Chg.valid {e : Int} {l : List Int} {x : Cm} {f : Int} {m : List Int} (c : Chg e l x f m) : Vd f m := by
  obtain ⟨⟨e0, e1, n1, n7, nd, srt⟩, ne, rfl, way⟩ := c
  have hlen : 1 ≤ m.length ∧ m.length ≤ 7 := by
    cases way with
    | add ho hn ha h7 => rw [ins_len]; omega
    | remove ho ha h1 => have := wo_len ha; omega
    | replace ho ha hn hb => have := wo_len ha; rw [ins_len]; omega
  refine ⟨by omega, by omega, hlen.1, hlen.2, fun y hy => ?_, way.srt srt⟩
  cases way with
  | add ho hn ha h7 =>
    rcases mem_ins.1 hy with h | h
    · rw [h]; exact hn
    · exact nd y h
  | remove ho ha h1 => exact nd y ((mem_wo srt).1 hy).2
  | replace ho ha hn hb =>
    rcases mem_ins.1 hy with h | h
    · rw [h]; exact hn
    · exact nd y ((mem_wo srt).1 h).2
theorem eq_nil_of {l : List Int} (h : ∀ x, x ∉ l) : l = [] := List.eq_nil_iff_forall_not_mem.2 h
theorem eq_one_of {l : List Int} {a : Int} (hs : l.Pairwise (· < ·)) (h : ∀ x, x ∈ l ↔ x = a) : l = [a] := srt_ext hs (by simp) fun x => by rw [h]; simp
/-- Who went, who came. -/
theorem Chg.diff {e : Int} {l : List Int} {x : Cm} {f : Int} {m : List Int} (c : Chg e l x f m) :
    (outs m l = [] ∧ outs l m = [x.a]) ∨ (outs m l = [x.a] ∧ outs l m = []) ∨ (outs m l = [x.a] ∧ outs l m = [x.b]) := by
  have vm := c.valid
  obtain ⟨⟨e0, e1, n1, n7, nd, srt⟩, ne, rfl, way⟩ := c
  have hm := way.mem srt
  cases way with
  | add ho hn ha h7 =>
    left
    refine ⟨eq_nil_of fun y hy => ?_, eq_one_of (outs_srt vm.srt) fun y => ?_⟩
    · rw [mem_outs, mem_ins] at hy; exact hy.2 (.inr hy.1)
    · rw [mem_outs, mem_ins]
      exact ⟨fun h => h.1.resolve_right h.2, fun h => ⟨.inl h, by rw [h]; exact ha⟩⟩
  | remove ho ha h1 =>
    right; left
    refine ⟨eq_one_of (outs_srt srt) fun y => ?_, eq_nil_of fun y hy => ?_⟩
    · rw [mem_outs, mem_wo srt]
      exact ⟨fun h => Classical.byContradiction fun hn => h.2 ⟨hn, h.1⟩, fun h => ⟨by rw [h]; exact ha, fun q => q.1 h⟩⟩
    · rw [mem_outs, mem_wo srt] at hy; exact hy.2 hy.1.2
  | replace ho ha hn hb =>
    right; right
    refine ⟨eq_one_of (outs_srt srt) fun y => ?_, eq_one_of (outs_srt vm.srt) fun y => ?_⟩
    · rw [mem_outs, mem_ins, mem_wo srt]
      exact ⟨fun h => Classical.byContradiction fun hn => h.2 (.inr ⟨hn, h.1⟩), fun h => ⟨by rw [h]; exact ha, fun q => q.elim (fun q => hb (by rw [← q, h]; exact ha)) (fun q => q.1 h)⟩⟩
    · rw [mem_outs, mem_ins, mem_wo srt]
      exact ⟨fun h => h.1.resolve_right fun q => h.2 q.2, fun h => ⟨.inl h, by rw [h]; exact hb⟩⟩
theorem Chg.follows {e : Int} {l : List Int} {x : Cm} {f : Int} {m : List Int} (c : Chg e l x f m) : followsB e f l m = true := by
  have h1 := valid_iff.2 c.vd
  have h2 := valid_iff.2 c.valid
  have h3 := c.hf
  unfold followsB
  rcases c.diff with ⟨a, b⟩ | ⟨a, b⟩ | ⟨a, b⟩ <;> simp [h1, h2, h3, a, b] <;> rw [← h3] <;> simp [h2]
theorem outs_nil {m l : List Int} (h : outs m l = []) : ∀ y ∈ l, y ∈ m := fun y hy => by
  have : y ∉ outs m l := by rw [h]; simp
  rw [mem_outs] at this
  exact Classical.byContradiction fun q => this ⟨hy, q⟩
theorem outs_one {m l : List Int} {a : Int} (h : outs m l = [a]) : a ∈ l ∧ a ∉ m ∧ ∀ y ∈ l, y ∉ m → y = a := by
  have h1 : a ∈ outs m l := by rw [h]; simp
  rw [mem_outs] at h1
  exact ⟨h1.1, h1.2, fun y hy hn => by
    have : y ∈ outs m l := mem_outs.2 ⟨hy, hn⟩
    rw [h] at this; simpa using this⟩
theorem follows_way {e f : Int} {l m : List Int} (h : followsB e f l m = true) : ∃ o i k : Int, (7 ≤ o ∧ o ≤ 9) ∧ (0 ≤ i ∧ i ≤ 31) ∧ (0 ≤ k ∧ k ≤ 31) ∧ Chg e l (cm o i k) f m := by
  simp only [followsB, Bool.and_eq_true, decide_eq_true_eq, beq_iff_eq] at h
  obtain ⟨⟨⟨⟨⟨h1, h2⟩, h3⟩, h4⟩, h5⟩, h6⟩ := h
  have v1 := valid_iff.1 h1
  have v2 := valid_iff.1 h2
  have ne : e ≠ 1048576 := fun q => by have := v2.e1; omega
  rcases hg : outs m l with _ | ⟨a, r⟩
  · rcases hc : outs l m with _ | ⟨b, r⟩
    · rw [hg, hc] at h6; simp at h6
    · obtain rfl : r = [] := by rw [hc] at h5; simpa using h5
      obtain ⟨b1, b2, b3⟩ := outs_one hc
      have a1 := outs_nil hg
      have hb := v2.nd b b1
      have em : m = ins l b := srt_ext v2.srt (ins_srt v1.srt b2) fun y => by
        rw [mem_ins]
        exact ⟨fun hy => Classical.or_iff_not_imp_right.2 (b3 y hy), fun hy => hy.elim (fun q => q ▸ b1) (a1 y)⟩
      have hl7 : l.length < 7 := by have := v2.n7; rw [em, ins_len] at this; omega
      refine ⟨7, b, 0, by omega, hb, by omega, v1, ne, h3, ?_⟩
      rw [em]
      exact Way.add (x := cm 7 b 0) rfl hb b2 hl7
  · obtain rfl : r = [] := by rw [hg] at h4; simpa using h4
    obtain ⟨a1, a2, a3⟩ := outs_one hg
    have ha := v1.nd a a1
    rcases hc : outs l m with _ | ⟨b, r⟩
    · have b1 := outs_nil hc
      have em : m = wo l a := srt_ext v2.srt (wo_rises v1.srt _) fun y => by
        rw [mem_wo v1.srt]
        exact ⟨fun hy => ⟨fun q => a2 (q ▸ hy), b1 y hy⟩, fun hy => Classical.byContradiction fun q => hy.1 (a3 y hy.2 q)⟩
      have hl1 : l.length ≠ 1 := by have := v2.n1; rw [em] at this; have := wo_len a1; omega
      refine ⟨8, a, 0, by omega, ha, by omega, v1, ne, h3, ?_⟩
      rw [em]
      exact Way.remove (x := cm 8 a 0) rfl a1 hl1
    · obtain rfl : r = [] := by rw [hc] at h5; simpa using h5
      obtain ⟨b1, b2, b3⟩ := outs_one hc
      have hb := v2.nd b b1
      have em : m = ins (wo l a) b := srt_ext v2.srt (ins_srt (wo_rises v1.srt _) fun q => b2 ((mem_wo v1.srt).1 q).2) fun y => by
        rw [mem_ins, mem_wo v1.srt]
        exact ⟨fun hy => Classical.or_iff_not_imp_left.2 fun q => ⟨fun q2 => a2 (q2 ▸ hy), Classical.byContradiction fun q2 => q (b3 y hy q2)⟩,
          fun hy => hy.elim (fun q => q ▸ b1) fun hy => Classical.byContradiction fun q => hy.1 (a3 y hy.2 q)⟩
      refine ⟨9, a, b, by omega, ha, hb, v1, ne, h3, ?_⟩
      rw [em]
      exact Way.replace (x := cm 9 a b) rfl a1 hb b2
theorem any_iff {n : Nat} {p : Int → Bool} : (upto n).any p = true ↔ ∃ x : Int, (0 ≤ x ∧ x < n) ∧ p x = true := by
  rw [List.any_eq_true]
  constructor
  · rintro ⟨x, h1, h2⟩; exact ⟨x, mem_upto.1 h1, h2⟩
  · rintro ⟨x, h1, h2⟩; exact ⟨x, mem_upto.2 h1, h2⟩
theorem hit_iff (e f : Int) (l m : List Int) (o i k : Int) : hit e f l m o i k = true ↔ Chg e l (cm o i k) f m := by
  unfold hit
  rw [rchange_eq]
  constructor
  · intro h
    rcases change_cases e l (cm o i k) with ⟨f', m', h1, h2⟩ | ⟨z, hz, h1⟩
    · rw [h1] at h
      simp at h
      rw [h.1, h.2]; exact h2
    · rw [h1] at h; simp [hz] at h
  · intro c
    rw [change_of c]; simp
theorem follows_eq (e f : Int) (l m : List Int) : hitO e f l m 3 = followsB e f l m := by
  rw [Bool.eq_iff_iff]
  unfold hitO
  constructor
  · intro h
    obtain ⟨o, ho, h⟩ := any_iff.1 h
    unfold hitI at h
    obtain ⟨i, hi, h⟩ := any_iff.1 h
    unfold hitK at h
    obtain ⟨k, hk, h⟩ := any_iff.1 h
    exact ((hit_iff _ _ _ _ _ _ _).1 h).follows
  · intro h
    obtain ⟨o, i, k, ho, hi, hk, c⟩ := follows_way h
    refine any_iff.2 ⟨o - 7, by simp; omega, any_iff.2 ⟨i, by simp; omega, any_iff.2 ⟨k, by simp; omega, ?_⟩⟩⟩
    rw [show o - 7 + 7 = o by omega]
    exact (hit_iff _ _ _ _ _ _ _).2 c
end Go.Proofs.Ytnocnhdhlibmpaa.C

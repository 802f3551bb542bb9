/- Parts of a proof, one behind the other: readings of functions, what they do, and what follows. -/
import Derived.Test.YtagkcbbbdlmcjaaMOP5
set_option linter.unusedVariables false
set_option linter.unusedSimpArgs false
section
/- The typed readings of the functions, and that the program meets each: written by gen.py (a program of this session). -/
namespace Go.Proofs.Ytagkcbbbdlmcjaa
open Go.Lift
set_option maxRecDepth 100000 in
set_option maxHeartbeats 4000000 in
theorem s26_calls (K : Bool → World → Prop) (p0 : Option Addr) (p1 : List Value) (p2 : Int) (w : World) (h : s26 K p0 p1 p2 w) :
  Calls Try.prog 26 #[.pointer p0, aggv p1, .int .i64 p2] w (Ret r26 K) := by
 unfold s26 at h
 refine calls_of_CW (n := 139) Try.func26 rfl rfl rfl ?_
 refine CW.seq ?_
 refine CW.region ?_
 obtain ⟨b1, hb1_⟩ : ∃ b_, b_ = w.heap.size := ⟨_, rfl⟩
 obtain ⟨w2, hw2_⟩ : ∃ w_, w_ = w.alloc (.cells (List.toArray p1) 29) := ⟨_, rfl⟩
 have h := h b1 w2 hb1_ hw2_
 refine RL.opS trivial rfl (OpW.boxE (cs := p1) (rfl) hb1_ hw2_ ?_)
 refine RL.opS trivial rfl (OpW.assign (v := .bool false) rfl ?_)
 refine RL.nil ?_
 refine CW.seq ?_
 refine CW.region ?_
 refine RL.opS trivial rfl (OpW.assign (v := .int .i64 0) rfl ?_)
 refine RL.opS trivial rfl (OpW.assign (v := .int .i64 0) rfl ?_)
 refine RL.nil ?_
 refine jn_elim h ?_; clear h; intro k127 hk128 h
 refine CW.seqJ (A := Int × Int) (fun s113 ρ => ρ 7 = .int .i64 s113.1 ∧ ρ 8 = .int .i64 s113.2 ∧ ρ 0 = .pointer p0) k127 ?_ ?_
 ·rintro s113 ρ w114 ⟨e115, e116, e117⟩ h
  subst hk128
  refine CW.seq ?_
  refine CW.region ?_
  refine RL.opS trivial rfl (OpW.move (v := .int .i64 s113.1) e115 ?_)
  refine RL.opS trivial rfl (OpW.move (v := .int .i64 s113.2) e116 ?_)
  refine RL.opS trivial rfl (OpW.bin (k := .i64) (a := s113.1) (b := s113.2) (v := .bool (decide (s113.1 = s113.2))) rfl rfl rfl ?_)
  refine RL.opS trivial rfl (OpW.move (v := .bool (decide (s113.1 = s113.2))) rfl ?_)
  refine jn_elim h ?_; clear h; intro k125 hk126 h
  refine RL.joinAt (A := Bool) 3 (fun s122 ρ => ρ 138 = .bool s122) k125 ?_ ?_
  ·rintro s122 ρ w123 e124 h
   subst hk126
   dsimp only [List.drop]
   refine RL.opS trivial rfl (OpW.assign (v := .bool s122) e124 ?_)
   refine RL.nil ?_
   refine CW.ret ?_
   exact ret_intro (res1 rfl rfl) ⟨s122, rfl, h⟩
  ·clear hk126
   dsimp only [List.take]
   obtain ⟨ha, hc⟩ := h
   rcases Bool.eq_false_or_eq_true (decide (s113.1 = s113.2)) with hb118 | hb118
   ·have h := ha hb118; clear ha hc
    refine RL.opS (wanted_of rfl rfl hb118) rfl (OpW.move (v := .pointer p0) e117 ?_)
    refine RL.opS (wanted_of rfl rfl hb118) rfl (OpW.callR (al := [.pointer p0]) Try.func43 fb_43 fn_43 rfl h (fun x120 w121 h => ?_))
    refine RL.opS trivial rfl (OpW.pick (b := true) (v := .bool x120) (congrArg Value.bool hb118) rfl ?_)
    refine RL.nil ?_
    exact ⟨x120, rfl, h⟩
   ·have h := hc hb118; clear ha hc
    refine RL.skipS (notWanted_of rfl rfl hb118) rfl ?_
    refine RL.skipS (notWanted_of rfl rfl hb118) rfl ?_
    refine RL.opS trivial rfl (OpW.pick (b := false) (v := .bool false) (congrArg Value.bool hb118) rfl ?_)
    refine RL.nil ?_
    exact ⟨false, rfl, h⟩
 ·clear hk128
  refine CW.seq ?_
  refine CW.region ?_
  refine RL.opS trivial rfl (OpW.fieldAddr (off := 0) field_29_0 rfl ?_)
  obtain ⟨x4, h1, h⟩ := h
  refine RL.opS trivial rfl (OpW.load1 (v := .int .i64 x4) one_3 rfl h1 ?_)
  refine RL.opS trivial rfl (OpW.convInt (a := x4) int_3 int_66 rfl ?_)
  refine RL.opS trivial rfl (OpW.quo (a := (IntKind.u64.wrap x4)) (b := 5) (v := .int .u64 (Int.tmod (IntKind.u64.wrap x4) 5)) rfl rfl (by decide) rfl ?_)
  refine RL.nil ?_
  refine CW.block ?_
  refine CW.seq ?_
  refine CW.region ?_
  refine RL.opS trivial rfl (OpW.bin (k := .u64) (a := (Int.tmod (IntKind.u64.wrap x4) 5)) (b := 0) (v := .bool (decide ((Int.tmod (IntKind.u64.wrap x4) 5) = 0))) rfl rfl rfl ?_)
  refine RL.opS trivial rfl (OpW.assign (v := .bool (decide ((Int.tmod (IntKind.u64.wrap x4) 5) = 0))) rfl ?_)
  refine RL.nil ?_
  obtain ⟨ha, hc⟩ := h
  refine CW.cond (b := (decide ((Int.tmod (IntKind.u64.wrap x4) 5) = 0))) rfl (fun hb5 => ?_) (fun hb5 => ?_)
  ·have h := ha hb5; clear ha hc
   refine CW.seq ?_
   obtain ⟨w6, hw6_⟩ : ∃ w_, w_ = w2.drew := ⟨_, rfl⟩
   have h := h w6 hw6_
   have hx7 : Ext w2 w6 := by rw [hw6_]; exact Ext.drew _
   refine CW.draws (m := 8) (listed := #[F,F,F,F,F,F,F,F]) mixed [0, 1, 2, 3, 4, 5, 7] (Ext w2) rfl rfl ?_
   rw [← hw6_]
   refine DL.takeP (listed' := #[T,F,F,F,F,F,F,F]) (v := .pointer p0) 0 rfl rfl (by kernel_rfl) rfl trivial rfl (fun w_ K_ h_ => OpW.move (v := .pointer p0) rfl h_) ?_
   obtain ⟨a8, ha9, h⟩ := h
   refine DL.takeP (listed' := #[T,T,F,F,F,F,F,F]) (v := .pointer (some a8)) 1 rfl rfl (by kernel_rfl) rfl trivial rfl (fun w_ K_ h_ => OpW.nilCheck (a := a8) (congrArg Value.pointer ha9) h_) ?_
   refine DL.takeP (listed' := #[T,T,T,F,F,F,F,F]) (v := .pointer (some (Addr.add a8 1))) 2 rfl rfl (by kernel_rfl) rfl trivial rfl (fun w_ K_ h_ => OpW.fieldAddr field_54_1 rfl h_) ?_
   obtain ⟨x10, h1, h⟩ := h
   refine DL.takeK (listed' := #[T,T,T,T,F,F,F,F]) (v := .pointer x10) 3 rfl rfl (by kernel_rfl) (by kernel_rfl) rfl trivial rfl hx7 (fun w_ hS_ K_ h_ => OpW.load1 (v := .pointer x10) one_35 rfl (hS_.cell h1) h_) ?_
   refine DL.takeP (listed' := #[T,T,T,T,T,F,F,F]) (v := .pointer (some (Addr.add ⟨b1, 0, none⟩ 1))) 4 rfl rfl (by kernel_rfl) rfl trivial rfl (fun w_ K_ h_ => OpW.fieldAddr field_29_1 rfl h_) ?_
   obtain ⟨x11, h1, h⟩ := h
   refine DL.takeK (listed' := #[T,T,T,T,T,T,F,F]) (v := Sl.v x11) 5 rfl rfl (by kernel_rfl) (by kernel_rfl) rfl trivial rfl hx7 (fun w_ hS_ K_ h_ => OpW.load1 (v := Sl.v x11) one_22 rfl (hS_.cell h1) h_) ?_
   refine DL.execS (listed' := #[T,T,T,T,T,T,T,F]) 6 rfl (by kernel_rfl) rfl trivial rfl (OpW.callR (al := [.pointer x10, Sl.v x11]) Try.func20 fb_20 fn_20 rfl h (fun x12 w13 h => ?_))
   refine ⟨(fun h_ => absurd h_ (by decide)), ?_⟩
   refine DL.takeP (listed' := #[T,T,T,T,T,T,T,T]) (v := .int .i64 x12) 7 rfl rfl (by kernel_rfl) rfl trivial rfl (fun w_ K_ h_ => OpW.assign (v := .int .i64 x12) rfl h_) ?_
   refine DL.done (by kernel_rfl) ?_
   obtain ⟨w14, hw14_⟩ : ∃ w_, w_ = w13.drew := ⟨_, rfl⟩
   have h := h w14 hw14_
   have hx15 : Ext w13 w14 := by rw [hw14_]; exact Ext.drew _
   refine CW.draws (m := 16) (listed := #[F,F,F,F,F,F,F,F,F,F,F,F,F,F,F,F]) mixed [0, 1, 2, 3, 4, 5, 6, 7, 9, 10, 11, 12, 13, 15] (Ext w13) rfl rfl ?_
   rw [← hw14_]
   refine DL.takeP (listed' := #[T,F,F,F,F,F,F,F,F,F,F,F,F,F,F,F]) (v := .pointer p0) 0 rfl rfl (by kernel_rfl) rfl trivial rfl (fun w_ K_ h_ => OpW.move (v := .pointer p0) rfl h_) ?_
   refine DL.takeP (listed' := #[T,T,F,F,F,F,F,F,F,F,F,F,F,F,F,F]) (v := .pointer p0) 1 rfl rfl (by kernel_rfl) rfl trivial rfl (fun w_ K_ h_ => OpW.move (v := .pointer p0) rfl h_) ?_
   obtain ⟨a16, ha17, h⟩ := h
   refine DL.takeP (listed' := #[T,T,T,F,F,F,F,F,F,F,F,F,F,F,F,F]) (v := .pointer (some a16)) 2 rfl rfl (by kernel_rfl) rfl trivial rfl (fun w_ K_ h_ => OpW.nilCheck (a := a16) (congrArg Value.pointer ha17) h_) ?_
   refine DL.takeP (listed' := #[T,T,T,T,F,F,F,F,F,F,F,F,F,F,F,F]) (v := .pointer (some (Addr.add a16 2))) 3 rfl rfl (by kernel_rfl) rfl trivial rfl (fun w_ K_ h_ => OpW.fieldAddr field_54_2 rfl h_) ?_
   obtain ⟨x18, h1, h2, h⟩ := h
   refine DL.takeK (listed' := #[T,T,T,T,T,F,F,F,F,F,F,F,F,F,F,F]) (v := aggv x18) 4 rfl rfl (by kernel_rfl) (by kernel_rfl) rfl trivial rfl hx15 (fun w_ hS_ K_ h_ => OpW.loadA agg_52 rfl h1 (hS_.at h2) h_) ?_
   refine DL.takeP (listed' := #[T,T,T,T,T,T,F,F,F,F,F,F,F,F,F,F]) (v := .pointer (some (Addr.add ⟨b1, 0, none⟩ 1))) 5 rfl rfl (by kernel_rfl) rfl trivial rfl (fun w_ K_ h_ => OpW.fieldAddr field_29_1 rfl h_) ?_
   obtain ⟨x19, h1, h⟩ := h
   refine DL.takeK (listed' := #[T,T,T,T,T,T,T,F,F,F,F,F,F,F,F,F]) (v := Sl.v x19) 6 rfl rfl (by kernel_rfl) (by kernel_rfl) rfl trivial rfl hx15 (fun w_ hS_ K_ h_ => OpW.load1 (v := Sl.v x19) one_22 rfl (hS_.cell h1) h_) ?_
   refine DL.execS (listed' := #[T,T,T,T,T,T,T,T,F,F,F,F,F,F,F,F]) 7 rfl (by kernel_rfl) rfl trivial rfl (OpW.callR (al := [Sl.v x19]) Try.func44 fb_44 fn_44 rfl h (fun x20 w21 h => ?_))
   obtain ⟨hx22, h⟩ := h
   refine ⟨(fun _ _ => hx22), ?_⟩
   refine DL.execS (listed' := #[T,T,T,T,T,T,T,T,T,F,F,F,F,F,F,F]) 8 rfl (by kernel_rfl) rfl trivial rfl (OpW.callR (al := [aggv x18, Sl.v x20]) Try.func56 fb_56 fn_56 rfl h (fun x23 w24 h => ?_))
   refine ⟨(fun h_ => absurd h_ (by decide)), ?_⟩
   refine DL.takeP (listed' := #[T,T,T,T,T,T,T,T,T,T,F,F,F,F,F,F]) (v := .tuple #[aggv x23.1, .int .i64 x23.2]) 9 rfl rfl (by kernel_rfl) rfl trivial rfl (fun w_ K_ h_ => OpW.move (v := .tuple #[aggv x23.1, .int .i64 x23.2]) rfl h_) ?_
   refine DL.takeP (listed' := #[T,T,T,T,T,T,T,T,T,T,T,F,F,F,F,F]) (v := aggv x23.1) 10 rfl rfl (by kernel_rfl) rfl trivial rfl (fun w_ K_ h_ => OpW.extract (v := aggv x23.1) rfl rfl h_) ?_
   refine DL.takeP (listed' := #[T,T,T,T,T,T,T,T,T,T,T,T,F,F,F,F]) (v := .int .i64 x23.2) 11 rfl rfl (by kernel_rfl) rfl trivial rfl (fun w_ K_ h_ => OpW.extract (v := .int .i64 x23.2) rfl rfl h_) ?_
   obtain ⟨a25, ha26, h⟩ := h
   refine DL.takeP (listed' := #[T,T,T,T,T,T,T,T,T,T,T,T,T,F,F,F]) (v := .pointer (some a25)) 12 rfl rfl (by kernel_rfl) rfl trivial rfl (fun w_ K_ h_ => OpW.nilCheck (a := a25) (congrArg Value.pointer ha26) h_) ?_
   refine DL.takeP (listed' := #[T,T,T,T,T,T,T,T,T,T,T,T,T,T,F,F]) (v := .pointer (some (Addr.add a25 2))) 13 rfl rfl (by kernel_rfl) rfl trivial rfl (fun w_ K_ h_ => OpW.fieldAddr field_54_2 rfl h_) ?_
   obtain ⟨g_, o_, e_, cur_, ha_, h1, h2, h3, h4, h⟩ := h
   obtain ⟨w27, hw27_⟩ : ∃ w_, w_ = w24.setRow g_ (cur_.toList.take o_ ++ x23.1 ++ cur_.toList.drop (o_ + List.length x23.1)).toArray := ⟨_, rfl⟩
   have h := h w27 hw27_
   refine DL.execN (listed' := #[T,T,T,T,T,T,T,T,T,T,T,T,T,T,T,F]) 14 rfl (by kernel_rfl) rfl trivial (OpW.storeAE (cs := x23.1) size_52 rfl rfl ha_ h1 h2 h3 h4 hw27_ ?_)
   refine ⟨(fun h_ => absurd h_ (by decide)), ?_⟩
   refine DL.takeP (listed' := #[T,T,T,T,T,T,T,T,T,T,T,T,T,T,T,T]) (v := .int .i64 x23.2) 15 rfl rfl (by kernel_rfl) rfl trivial rfl (fun w_ K_ h_ => OpW.assign (v := .int .i64 x23.2) rfl h_) ?_
   refine DL.done (by kernel_rfl) ?_
   exact ⟨(x12, x23.2), ⟨rfl, rfl, rfl⟩, h⟩
  ·have h := hc hb5; clear ha hc
   refine CW.seq ?_
   refine CW.region ?_
   refine RL.opS trivial rfl (OpW.bin (k := .u64) (a := (Int.tmod (IntKind.u64.wrap x4) 5)) (b := 1) (v := .bool (decide ((Int.tmod (IntKind.u64.wrap x4) 5) = 1))) rfl rfl rfl ?_)
   refine RL.opS trivial rfl (OpW.assign (v := .bool (decide ((Int.tmod (IntKind.u64.wrap x4) 5) = 1))) rfl ?_)
   refine RL.nil ?_
   obtain ⟨ha, hc⟩ := h
   refine CW.cond (b := (decide ((Int.tmod (IntKind.u64.wrap x4) 5) = 1))) rfl (fun hb28 => ?_) (fun hb28 => ?_)
   ·have h := ha hb28; clear ha hc
    refine CW.seq ?_
    refine CW.region ?_
    refine RL.opS trivial rfl (OpW.move (v := .pointer p0) rfl ?_)
    obtain ⟨a29, ha30, h⟩ := h
    refine RL.opS trivial rfl (OpW.nilCheck (a := a29) (congrArg Value.pointer ha30) ?_)
    refine RL.opS trivial rfl (OpW.fieldAddr field_54_1 rfl ?_)
    obtain ⟨x31, h1, h⟩ := h
    refine RL.opS trivial rfl (OpW.load1 (v := .pointer x31) one_35 rfl h1 ?_)
    refine RL.opS trivial rfl (OpW.callR (al := [.pointer x31]) Try.func21 fb_21 fn_21 rfl h (fun x32 w33 h => ?_))
    refine RL.opS trivial rfl (OpW.assign (v := .int .i64 x32) rfl ?_)
    refine RL.nil ?_
    refine CW.region ?_
    refine RL.opS trivial rfl (OpW.move (v := .pointer p0) rfl ?_)
    refine RL.opS trivial rfl (OpW.move (v := .pointer p0) rfl ?_)
    obtain ⟨a34, ha35, h⟩ := h
    refine RL.opS trivial rfl (OpW.nilCheck (a := a34) (congrArg Value.pointer ha35) ?_)
    refine RL.opS trivial rfl (OpW.fieldAddr field_54_2 rfl ?_)
    obtain ⟨x36, h1, h2, h⟩ := h
    refine RL.opS trivial rfl (OpW.loadA agg_52 rfl h1 h2 ?_)
    refine RL.opS trivial rfl (OpW.callR (al := [aggv x36]) Try.func57 fb_57 fn_57 rfl h (fun x37 w38 h => ?_))
    refine RL.opS trivial rfl (OpW.move (v := .tuple #[aggv x37.1, .int .i64 x37.2]) rfl ?_)
    refine RL.opS trivial rfl (OpW.extract (v := aggv x37.1) rfl rfl ?_)
    refine RL.opS trivial rfl (OpW.extract (v := .int .i64 x37.2) rfl rfl ?_)
    obtain ⟨a39, ha40, h⟩ := h
    refine RL.opS trivial rfl (OpW.nilCheck (a := a39) (congrArg Value.pointer ha40) ?_)
    refine RL.opS trivial rfl (OpW.fieldAddr field_54_2 rfl ?_)
    obtain ⟨g_, o_, e_, cur_, ha_, h1, h2, h3, h4, h⟩ := h
    obtain ⟨w41, hw41_⟩ : ∃ w_, w_ = w38.setRow g_ (cur_.toList.take o_ ++ x37.1 ++ cur_.toList.drop (o_ + List.length x37.1)).toArray := ⟨_, rfl⟩
    have h := h w41 hw41_
    refine RL.opN trivial (OpW.storeAE (cs := x37.1) size_52 rfl rfl ha_ h1 h2 h3 h4 hw41_ ?_)
    refine RL.opS trivial rfl (OpW.assign (v := .int .i64 x37.2) rfl ?_)
    refine RL.nil ?_
    exact ⟨(x32, x37.2), ⟨rfl, rfl, rfl⟩, h⟩
   ·have h := hc hb28; clear ha hc
    refine CW.seq ?_
    refine CW.region ?_
    refine RL.opS trivial rfl (OpW.bin (k := .u64) (a := (Int.tmod (IntKind.u64.wrap x4) 5)) (b := 2) (v := .bool (decide ((Int.tmod (IntKind.u64.wrap x4) 5) = 2))) rfl rfl rfl ?_)
    refine RL.opS trivial rfl (OpW.assign (v := .bool (decide ((Int.tmod (IntKind.u64.wrap x4) 5) = 2))) rfl ?_)
    refine RL.nil ?_
    obtain ⟨ha, hc⟩ := h
    refine CW.cond (b := (decide ((Int.tmod (IntKind.u64.wrap x4) 5) = 2))) rfl (fun hb42 => ?_) (fun hb42 => ?_)
    ·have h := ha hb42; clear ha hc
     refine CW.seq ?_
     obtain ⟨w43, hw43_⟩ : ∃ w_, w_ = w2.drew := ⟨_, rfl⟩
     have h := h w43 hw43_
     have hx44 : Ext w2 w43 := by rw [hw43_]; exact Ext.drew _
     refine CW.draws (m := 7) (listed := #[F,F,F,F,F,F,F]) mixed [0, 1, 2, 3, 4, 5] (Ext w2) rfl rfl ?_
     rw [← hw43_]
     refine DL.takeP (listed' := #[T,F,F,F,F,F,F]) (v := .pointer p0) 0 rfl rfl (by kernel_rfl) rfl trivial rfl (fun w_ K_ h_ => OpW.move (v := .pointer p0) rfl h_) ?_
     obtain ⟨a45, ha46, h⟩ := h
     refine DL.takeP (listed' := #[T,T,F,F,F,F,F]) (v := .pointer (some a45)) 1 rfl rfl (by kernel_rfl) rfl trivial rfl (fun w_ K_ h_ => OpW.nilCheck (a := a45) (congrArg Value.pointer ha46) h_) ?_
     refine DL.takeP (listed' := #[T,T,T,F,F,F,F]) (v := .pointer (some (Addr.add a45 0))) 2 rfl rfl (by kernel_rfl) rfl trivial rfl (fun w_ K_ h_ => OpW.fieldAddr (off := 0) field_54_0 rfl h_) ?_
     obtain ⟨x47, h1, h⟩ := h
     refine DL.takeK (listed' := #[T,T,T,T,F,F,F]) (v := .pointer x47) 3 rfl rfl (by kernel_rfl) (by kernel_rfl) rfl trivial rfl hx44 (fun w_ hS_ K_ h_ => OpW.load1 (v := .pointer x47) one_31 rfl (hS_.cell h1) h_) ?_
     refine DL.takeP (listed' := #[T,T,T,T,T,F,F]) (v := .pointer (some (Addr.add ⟨b1, 0, none⟩ 2))) 4 rfl rfl (by kernel_rfl) rfl trivial rfl (fun w_ K_ h_ => OpW.fieldAddr field_29_2 rfl h_) ?_
     obtain ⟨x48, h1, h2, h⟩ := h
     refine DL.takeK (listed' := #[T,T,T,T,T,T,F]) (v := aggv x48) 5 rfl rfl (by kernel_rfl) (by kernel_rfl) rfl trivial rfl hx44 (fun w_ hS_ K_ h_ => OpW.loadA agg_27 rfl h1 (hS_.at h2) h_) ?_
     refine DL.execS (listed' := #[T,T,T,T,T,T,T]) 6 rfl (by kernel_rfl) rfl trivial rfl (OpW.callR (al := [.pointer x47, aggv x48]) Try.func35 fb_35 fn_35 rfl h (fun x49 w50 h => ?_))
     refine ⟨(fun h_ => absurd h_ (by decide)), ?_⟩
     refine DL.done (by kernel_rfl) ?_
     refine CW.seq ?_
     refine CW.region ?_
     refine RL.opS trivial rfl (OpW.move (v := .pointer p0) rfl ?_)
     obtain ⟨a51, ha52, h⟩ := h
     refine RL.opS trivial rfl (OpW.nilCheck (a := a51) (congrArg Value.pointer ha52) ?_)
     refine RL.opS trivial rfl (OpW.fieldAddr (off := 0) field_54_0 rfl ?_)
     obtain ⟨x53, h1, h⟩ := h
     refine RL.opS trivial rfl (OpW.load1 (v := .pointer x53) one_31 rfl h1 ?_)
     refine RL.opS trivial rfl (OpW.callR (al := [.pointer x53]) Try.func27 fb_27 fn_27 rfl h (fun x54 w55 h => ?_))
     refine RL.nil ?_
     refine CW.seq ?_
     obtain ⟨w56, hw56_⟩ : ∃ w_, w_ = w55.drew := ⟨_, rfl⟩
     have h := h w56 hw56_
     have hx57 : Ext w55 w56 := by rw [hw56_]; exact Ext.drew _
     refine CW.draws (m := 13) (listed := #[F,F,F,F,F,F,F,F,F,F,F,F,F]) mixed [0, 1, 2, 3, 4, 5, 6, 7, 9, 10, 11] (Ext w55) rfl rfl ?_
     rw [← hw56_]
     refine DL.takeP (listed' := #[T,F,F,F,F,F,F,F,F,F,F,F,F]) (v := .pointer p0) 0 rfl rfl (by kernel_rfl) rfl trivial rfl (fun w_ K_ h_ => OpW.move (v := .pointer p0) rfl h_) ?_
     refine DL.takeP (listed' := #[T,T,F,F,F,F,F,F,F,F,F,F,F]) (v := .pointer p0) 1 rfl rfl (by kernel_rfl) rfl trivial rfl (fun w_ K_ h_ => OpW.move (v := .pointer p0) rfl h_) ?_
     obtain ⟨a58, ha59, h⟩ := h
     refine DL.takeP (listed' := #[T,T,T,F,F,F,F,F,F,F,F,F,F]) (v := .pointer (some a58)) 2 rfl rfl (by kernel_rfl) rfl trivial rfl (fun w_ K_ h_ => OpW.nilCheck (a := a58) (congrArg Value.pointer ha59) h_) ?_
     refine DL.takeP (listed' := #[T,T,T,T,F,F,F,F,F,F,F,F,F]) (v := .pointer (some (Addr.add a58 2))) 3 rfl rfl (by kernel_rfl) rfl trivial rfl (fun w_ K_ h_ => OpW.fieldAddr field_54_2 rfl h_) ?_
     refine DL.takeP (listed' := #[T,T,T,T,T,F,F,F,F,F,F,F,F]) (v := .pointer (some (Addr.add (Addr.add a58 2) 0))) 4 rfl rfl (by kernel_rfl) rfl trivial rfl (fun w_ K_ h_ => OpW.fieldAddr (off := 0) field_52_0 rfl h_) ?_
     obtain ⟨x60, h1, h2, h⟩ := h
     refine DL.takeK (listed' := #[T,T,T,T,T,T,F,F,F,F,F,F,F]) (v := aggv x60) 5 rfl rfl (by kernel_rfl) (by kernel_rfl) rfl trivial rfl hx57 (fun w_ hS_ K_ h_ => OpW.loadA agg_49 rfl h1 (hS_.at h2) h_) ?_
     refine DL.takeP (listed' := #[T,T,T,T,T,T,T,F,F,F,F,F,F]) (v := .pointer (some (Addr.add ⟨b1, 0, none⟩ 2))) 6 rfl rfl (by kernel_rfl) rfl trivial rfl (fun w_ K_ h_ => OpW.fieldAddr field_29_2 rfl h_) ?_
     obtain ⟨x61, h1, h2, h⟩ := h
     refine DL.takeK (listed' := #[T,T,T,T,T,T,T,T,F,F,F,F,F]) (v := aggv x61) 7 rfl rfl (by kernel_rfl) (by kernel_rfl) rfl trivial rfl hx57 (fun w_ hS_ K_ h_ => OpW.loadA agg_27 rfl h1 (hS_.at h2) h_) ?_
     refine DL.execS (listed' := #[T,T,T,T,T,T,T,T,T,F,F,F,F]) 8 rfl (by kernel_rfl) rfl trivial rfl (OpW.callR (al := [aggv x60, aggv x61]) Try.func58 fb_58 fn_58 rfl h (fun x62 w63 h => ?_))
     refine ⟨(fun h_ => absurd h_ (by decide)), ?_⟩
     obtain ⟨a64, ha65, h⟩ := h
     refine DL.takeP (listed' := #[T,T,T,T,T,T,T,T,T,T,F,F,F]) (v := .pointer (some a64)) 9 rfl rfl (by kernel_rfl) rfl trivial rfl (fun w_ K_ h_ => OpW.nilCheck (a := a64) (congrArg Value.pointer ha65) h_) ?_
     refine DL.takeP (listed' := #[T,T,T,T,T,T,T,T,T,T,T,F,F]) (v := .pointer (some (Addr.add a64 2))) 10 rfl rfl (by kernel_rfl) rfl trivial rfl (fun w_ K_ h_ => OpW.fieldAddr field_54_2 rfl h_) ?_
     refine DL.takeP (listed' := #[T,T,T,T,T,T,T,T,T,T,T,T,F]) (v := .pointer (some (Addr.add (Addr.add a64 2) 0))) 11 rfl rfl (by kernel_rfl) rfl trivial rfl (fun w_ K_ h_ => OpW.fieldAddr (off := 0) field_52_0 rfl h_) ?_
     obtain ⟨g_, o_, e_, cur_, ha_, h1, h2, h3, h4, h⟩ := h
     obtain ⟨w66, hw66_⟩ : ∃ w_, w_ = w63.setRow g_ (cur_.toList.take o_ ++ x62 ++ cur_.toList.drop (o_ + List.length x62)).toArray := ⟨_, rfl⟩
     have h := h w66 hw66_
     refine DL.execN (listed' := #[T,T,T,T,T,T,T,T,T,T,T,T,T]) 12 rfl (by kernel_rfl) rfl trivial (OpW.storeAE (cs := x62) size_49 rfl rfl ha_ h1 h2 h3 h4 hw66_ ?_)
     refine ⟨(fun h_ => absurd h_ (by decide)), ?_⟩
     refine DL.done (by kernel_rfl) ?_
     refine CW.seq ?_
     refine CW.region ?_
     refine RL.opS trivial rfl (OpW.move (v := .pointer p0) rfl ?_)
     obtain ⟨a67, ha68, h⟩ := h
     refine RL.opS trivial rfl (OpW.nilCheck (a := a67) (congrArg Value.pointer ha68) ?_)
     refine RL.opS trivial rfl (OpW.fieldAddr field_54_2 rfl ?_)
     refine RL.opS trivial rfl (OpW.fieldAddr (off := 0) field_52_0 rfl ?_)
     refine RL.opS trivial rfl (OpW.fieldAddr field_49_4 rfl ?_)
     obtain ⟨u_, h1, h2, h⟩ := h
     obtain ⟨w69, hw69_⟩ : ∃ w_, w_ = w66.setCell (Addr.add (Addr.add (Addr.add a67 2) 0) 4) (.bool false) := ⟨_, rfl⟩
     have h := h w69 hw69_
     refine RL.opN trivial (OpW.store1E (v := .bool false) size_4 rfl rfl rfl h1 h2 hw69_ ?_)
     refine RL.nil ?_
     refine CW.seq ?_
     refine CW.region ?_
     refine RL.opS trivial rfl (OpW.move (v := .pointer p0) rfl ?_)
     refine RL.opS trivial rfl (OpW.move (v := .int .i64 p2) rfl ?_)
     refine RL.opS trivial rfl (OpW.callR (al := [.pointer p0, .int .i64 p2]) Try.func25 fb_25 fn_25 rfl h (fun x70 w71 h => ?_))
     refine RL.opS trivial rfl (OpW.assign (v := .bool x70) rfl ?_)
     refine RL.nil ?_
     refine CW.ret ?_
     exact ret_intro (res1 rfl rfl) ⟨x70, rfl, h⟩
    ·have h := hc hb42; clear ha hc
     refine CW.seq ?_
     refine CW.region ?_
     refine RL.opS trivial rfl (OpW.bin (k := .u64) (a := (Int.tmod (IntKind.u64.wrap x4) 5)) (b := 3) (v := .bool (decide ((Int.tmod (IntKind.u64.wrap x4) 5) = 3))) rfl rfl rfl ?_)
     refine RL.opS trivial rfl (OpW.assign (v := .bool (decide ((Int.tmod (IntKind.u64.wrap x4) 5) = 3))) rfl ?_)
     refine RL.nil ?_
     obtain ⟨ha, hc⟩ := h
     refine CW.cond (b := (decide ((Int.tmod (IntKind.u64.wrap x4) 5) = 3))) rfl (fun hb72 => ?_) (fun hb72 => ?_)
     ·have h := ha hb72; clear ha hc
      refine CW.seq ?_
      refine CW.region ?_
      refine RL.opS trivial rfl (OpW.fieldAddr field_29_2 rfl ?_)
      obtain ⟨x73, h1, h2, h⟩ := h
      refine RL.opS trivial rfl (OpW.loadA agg_27 rfl h1 h2 ?_)
      obtain ⟨hl_b74, ho_b74, h⟩ := h
      obtain ⟨b74, hb74_⟩ : ∃ b_, b_ = w2.heap.size := ⟨_, rfl⟩
      obtain ⟨w75, hw75_⟩ : ∃ w_, w_ = w2.alloc (.cells (List.toArray x73) 27) := ⟨_, rfl⟩
      have h := h b74 w75 hb74_ hw75_
      refine RL.opS trivial rfl (OpW.allocZ (b := b74) zero_27 hb74_ ?_)
      refine RL.opN trivial (OpW.storeF (zs := [Value.int .i64 0, Value.int .u64 0, Value.int .i64 0]) (cs := x73) size_27 rfl rfl hl_b74 (by decide) ho_b74 hb74_ hw75_ ?_)
      refine RL.nil ?_
      refine CW.seq ?_
      obtain ⟨w76, hw76_⟩ : ∃ w_, w_ = w75.drew := ⟨_, rfl⟩
      have h := h w76 hw76_
      have hx77 : Ext w75 w76 := by rw [hw76_]; exact Ext.drew _
      refine CW.draws (m := 13) (listed := #[F,F,F,F,F,F,F,F,F,F,F,F,F]) mixed [0, 1, 2, 3, 4, 5, 6, 7, 8, 9, 10, 11] (Ext w75) rfl rfl ?_
      rw [← hw76_]
      refine DL.takeP (listed' := #[T,F,F,F,F,F,F,F,F,F,F,F,F]) (v := .pointer p0) 0 rfl rfl (by kernel_rfl) rfl trivial rfl (fun w_ K_ h_ => OpW.move (v := .pointer p0) rfl h_) ?_
      obtain ⟨a78, ha79, h⟩ := h
      refine DL.takeP (listed' := #[T,T,F,F,F,F,F,F,F,F,F,F,F]) (v := .pointer (some a78)) 1 rfl rfl (by kernel_rfl) rfl trivial rfl (fun w_ K_ h_ => OpW.nilCheck (a := a78) (congrArg Value.pointer ha79) h_) ?_
      refine DL.takeP (listed' := #[T,T,T,F,F,F,F,F,F,F,F,F,F]) (v := .pointer (some (Addr.add a78 0))) 2 rfl rfl (by kernel_rfl) rfl trivial rfl (fun w_ K_ h_ => OpW.fieldAddr (off := 0) field_54_0 rfl h_) ?_
      obtain ⟨x80, h1, h⟩ := h
      refine DL.takeK (listed' := #[T,T,T,T,F,F,F,F,F,F,F,F,F]) (v := .pointer x80) 3 rfl rfl (by kernel_rfl) (by kernel_rfl) rfl trivial rfl hx77 (fun w_ hS_ K_ h_ => OpW.load1 (v := .pointer x80) one_31 rfl (hS_.cell h1) h_) ?_
      refine DL.takeP (listed' := #[T,T,T,T,F,T,F,F,F,F,F,F,F]) (v := .pointer (some (Addr.add ⟨b74, 0, none⟩ 0))) 5 rfl rfl (by kernel_rfl) rfl trivial rfl (fun w_ K_ h_ => OpW.fieldAddr (off := 0) field_27_0 rfl h_) ?_
      obtain ⟨x81, h1, h⟩ := h
      refine DL.takeK (listed' := #[T,T,T,T,F,T,T,F,F,F,F,F,F]) (v := .int .i64 x81) 6 rfl rfl (by kernel_rfl) (by kernel_rfl) rfl trivial rfl hx77 (fun w_ hS_ K_ h_ => OpW.load1 (v := .int .i64 x81) one_3 rfl (hS_.cell h1) h_) ?_
      refine DL.takeP (listed' := #[T,T,T,T,F,T,T,T,F,F,F,F,F]) (v := .int .u64 (IntKind.u64.wrap x81)) 7 rfl rfl (by kernel_rfl) rfl trivial rfl (fun w_ K_ h_ => OpW.convInt (a := x81) int_3 int_66 rfl h_) ?_
      refine DL.takeP (listed' := #[T,T,T,T,F,T,T,T,T,F,F,F,F]) (v := .int .u64 (Int.tmod (IntKind.u64.wrap x81) 9)) 8 rfl rfl (by kernel_rfl) rfl trivial rfl (fun w_ K_ h_ => OpW.quo (a := (IntKind.u64.wrap x81)) (b := 9) (v := .int .u64 (Int.tmod (IntKind.u64.wrap x81) 9)) rfl rfl (by decide) rfl h_) ?_
      refine DL.takeP (listed' := #[T,T,T,T,F,T,T,T,T,T,F,F,F]) (v := .int .i64 (IntKind.i64.wrap (Int.tmod (IntKind.u64.wrap x81) 9))) 9 rfl rfl (by kernel_rfl) rfl trivial rfl (fun w_ K_ h_ => OpW.convInt (a := (Int.tmod (IntKind.u64.wrap x81) 9)) int_66 int_3 rfl h_) ?_
      refine DL.execS (listed' := #[T,T,T,T,T,T,T,T,T,T,F,F,F]) 4 rfl (by kernel_rfl) rfl trivial rfl (OpW.callR (al := [.pointer x80]) Try.func19 fb_19 fn_19 rfl h (fun x82 w83 h => ?_))
      obtain ⟨hx84, h⟩ := h
      refine ⟨(fun _ _ => hx84), ?_⟩
      refine DL.takeP (listed' := #[T,T,T,T,T,T,T,T,T,T,T,F,F]) (v := .int .i64 (IntKind.i64.wrap (x82 + (IntKind.i64.wrap (Int.tmod (IntKind.u64.wrap x81) 9))))) 10 rfl rfl (by kernel_rfl) rfl trivial rfl (fun w_ K_ h_ => OpW.bin (k := .i64) (a := x82) (b := (IntKind.i64.wrap (Int.tmod (IntKind.u64.wrap x81) 9))) (v := .int .i64 (IntKind.i64.wrap (x82 + (IntKind.i64.wrap (Int.tmod (IntKind.u64.wrap x81) 9))))) rfl rfl rfl h_) ?_
      refine DL.takeP (listed' := #[T,T,T,T,T,T,T,T,T,T,T,T,F]) (v := .pointer (some (Addr.add ⟨b74, 0, none⟩ 0))) 11 rfl rfl (by kernel_rfl) rfl trivial rfl (fun w_ K_ h_ => OpW.fieldAddr (off := 0) field_27_0 rfl h_) ?_
      obtain ⟨u_, h1, h2, h⟩ := h
      obtain ⟨w85, hw85_⟩ : ∃ w_, w_ = w83.setCell (Addr.add ⟨b74, 0, none⟩ 0) (.int .i64 (IntKind.i64.wrap (x82 + (IntKind.i64.wrap (Int.tmod (IntKind.u64.wrap x81) 9))))) := ⟨_, rfl⟩
      have h := h w85 hw85_
      refine DL.execN (listed' := #[T,T,T,T,T,T,T,T,T,T,T,T,T]) 12 rfl (by kernel_rfl) rfl trivial (OpW.store1E (v := .int .i64 (IntKind.i64.wrap (x82 + (IntKind.i64.wrap (Int.tmod (IntKind.u64.wrap x81) 9))))) size_3 rfl rfl rfl h1 h2 hw85_ ?_)
      refine ⟨(fun h_ => absurd h_ (by decide)), ?_⟩
      refine DL.done (by kernel_rfl) ?_
      refine CW.seq ?_
      obtain ⟨w86, hw86_⟩ : ∃ w_, w_ = w85.drew := ⟨_, rfl⟩
      have h := h w86 hw86_
      have hx87 : Ext w85 w86 := by rw [hw86_]; exact Ext.drew _
      refine CW.draws (m := 7) (listed := #[F,F,F,F,F,F,F]) mixed [0, 1, 2, 3, 4, 5] (Ext w85) rfl rfl ?_
      rw [← hw86_]
      refine DL.takeP (listed' := #[T,F,F,F,F,F,F]) (v := .pointer p0) 0 rfl rfl (by kernel_rfl) rfl trivial rfl (fun w_ K_ h_ => OpW.move (v := .pointer p0) rfl h_) ?_
      obtain ⟨a88, ha89, h⟩ := h
      refine DL.takeP (listed' := #[T,T,F,F,F,F,F]) (v := .pointer (some a88)) 1 rfl rfl (by kernel_rfl) rfl trivial rfl (fun w_ K_ h_ => OpW.nilCheck (a := a88) (congrArg Value.pointer ha89) h_) ?_
      refine DL.takeP (listed' := #[T,T,T,F,F,F,F]) (v := .pointer (some (Addr.add a88 0))) 2 rfl rfl (by kernel_rfl) rfl trivial rfl (fun w_ K_ h_ => OpW.fieldAddr (off := 0) field_54_0 rfl h_) ?_
      obtain ⟨x90, h1, h⟩ := h
      refine DL.takeK (listed' := #[T,T,T,T,F,F,F]) (v := .pointer x90) 3 rfl rfl (by kernel_rfl) (by kernel_rfl) rfl trivial rfl hx87 (fun w_ hS_ K_ h_ => OpW.load1 (v := .pointer x90) one_31 rfl (hS_.cell h1) h_) ?_
      obtain ⟨x91, h1, h2, h⟩ := h
      refine DL.takeK (listed' := #[T,T,T,T,T,F,F]) (v := aggv x91) 4 rfl rfl (by kernel_rfl) (by kernel_rfl) rfl trivial rfl hx87 (fun w_ hS_ K_ h_ => OpW.loadA agg_27 rfl h1 (hS_.at h2) h_) ?_
      obtain ⟨hl_, ho_, h⟩ := h
      obtain ⟨b92, hb92_⟩ : ∃ b_, b_ = w86.heap.size := ⟨_, rfl⟩
      obtain ⟨w93, hw93_⟩ : ∃ w_, w_ = w86.alloc (.cells (List.toArray x91) 27) := ⟨_, rfl⟩
      have h := h b92 w93 hb92_ hw93_
      refine DL.execS (listed' := #[T,T,T,T,T,T,F]) 5 rfl (by kernel_rfl) rfl trivial rfl (OpW.buildSliceE (vs := [(0, aggv x91)]) (cs := x91) (by rfl) (fillOne mkz_47 (by simp) (by decide) (by decide) hl_) hb92_ hw93_ ?_)
      have hx94 : Ext w85 w93 := by rw [hw93_]; exact Ext.alloc hx87 _
      refine ⟨(fun _ _ => hx94), ?_⟩
      refine DL.execS (listed' := #[T,T,T,T,T,T,T]) 6 rfl (by kernel_rfl) rfl trivial rfl (OpW.callR (al := [.pointer x90, Sl.v ⟨some ⟨b92, 0, none⟩, 1, 1⟩]) Try.func37 fb_37 fn_37 rfl h (fun x95 w96 h => ?_))
      refine ⟨(fun h_ => absurd h_ (by decide)), ?_⟩
      refine DL.done (by kernel_rfl) ?_
      refine CW.region ?_
      refine RL.opS trivial rfl (OpW.move (v := .pointer p0) rfl ?_)
      obtain ⟨x97, h1, h2, h⟩ := h
      refine RL.opS trivial rfl (OpW.loadA agg_27 rfl h1 h2 ?_)
      obtain ⟨hl_, ho_, h⟩ := h
      obtain ⟨b98, hb98_⟩ : ∃ b_, b_ = w96.heap.size := ⟨_, rfl⟩
      obtain ⟨w99, hw99_⟩ : ∃ w_, w_ = w96.alloc (.cells (List.toArray x97) 27) := ⟨_, rfl⟩
      have h := h b98 w99 hb98_ hw99_
      refine RL.opS trivial rfl (OpW.buildSliceE (vs := [(0, aggv x97)]) (cs := x97) (by rfl) (fillOne mkz_47 (by simp) (by decide) (by decide) hl_) hb98_ hw99_ ?_)
      obtain ⟨a100, ha101, h⟩ := h
      refine RL.opS trivial rfl (OpW.nilCheck (a := a100) (congrArg Value.pointer ha101) ?_)
      refine RL.opS trivial rfl (OpW.fieldAddr field_54_2 rfl ?_)
      refine RL.opS trivial rfl (OpW.fieldAddr (off := 0) field_52_0 rfl ?_)
      refine RL.opS trivial rfl (OpW.fieldAddr field_49_2 rfl ?_)
      obtain ⟨u_, h1, h2, h⟩ := h
      obtain ⟨w102, hw102_⟩ : ∃ w_, w_ = w99.setCell (Addr.add (Addr.add (Addr.add a100 2) 0) 2) (Sl.v ⟨some ⟨b98, 0, none⟩, 1, 1⟩) := ⟨_, rfl⟩
      have h := h w102 hw102_
      refine RL.opN trivial (OpW.store1E (v := Sl.v ⟨some ⟨b98, 0, none⟩, 1, 1⟩) size_47 rfl rfl rfl h1 h2 hw102_ ?_)
      refine RL.nil ?_
      exact ⟨(0, 0), ⟨rfl, rfl, rfl⟩, h⟩
     ·have h := hc hb72; clear ha hc
      refine CW.seq ?_
      refine CW.region ?_
      refine RL.opS trivial rfl (OpW.move (v := .pointer p0) rfl ?_)
      obtain ⟨a103, ha104, h⟩ := h
      refine RL.opS trivial rfl (OpW.nilCheck (a := a103) (congrArg Value.pointer ha104) ?_)
      refine RL.opS trivial rfl (OpW.fieldAddr (off := 0) field_54_0 rfl ?_)
      obtain ⟨x105, h1, h⟩ := h
      refine RL.opS trivial rfl (OpW.load1 (v := .pointer x105) one_31 rfl h1 ?_)
      refine RL.opS trivial rfl (OpW.callR (al := [.pointer x105]) Try.func27 fb_27 fn_27 rfl h (fun x106 w107 h => ?_))
      refine RL.nil ?_
      refine CW.seq ?_
      refine CW.region ?_
      refine RL.opS trivial rfl (OpW.move (v := .pointer p0) rfl ?_)
      obtain ⟨a108, ha109, h⟩ := h
      refine RL.opS trivial rfl (OpW.nilCheck (a := a108) (congrArg Value.pointer ha109) ?_)
      refine RL.opS trivial rfl (OpW.fieldAddr field_54_2 rfl ?_)
      refine RL.opS trivial rfl (OpW.fieldAddr (off := 0) field_52_0 rfl ?_)
      refine RL.opS trivial rfl (OpW.fieldAddr field_49_4 rfl ?_)
      obtain ⟨u_, h1, h2, h⟩ := h
      obtain ⟨w110, hw110_⟩ : ∃ w_, w_ = w107.setCell (Addr.add (Addr.add (Addr.add a108 2) 0) 4) (.bool false) := ⟨_, rfl⟩
      have h := h w110 hw110_
      refine RL.opN trivial (OpW.store1E (v := .bool false) size_4 rfl rfl rfl h1 h2 hw110_ ?_)
      refine RL.nil ?_
      refine CW.seq ?_
      refine CW.region ?_
      refine RL.opS trivial rfl (OpW.move (v := .pointer p0) rfl ?_)
      refine RL.opS trivial rfl (OpW.move (v := .int .i64 p2) rfl ?_)
      refine RL.opS trivial rfl (OpW.callR (al := [.pointer p0, .int .i64 p2]) Try.func25 fb_25 fn_25 rfl h (fun x111 w112 h => ?_))
      refine RL.opS trivial rfl (OpW.assign (v := .bool x111) rfl ?_)
      refine RL.nil ?_
      refine CW.ret ?_
      exact ret_intro (res1 rfl rfl) ⟨x111, rfl, h⟩
end Go.Proofs.Ytagkcbbbdlmcjaa
end
section
/- One thing done to both journals: they answer the same. -/
namespace Go.Proofs.Ytagkcbbbdlmcjaa
open Go.Lift Go.Lift.Disk Go.Lift.Crc Go.Lift.Wal Go.RowKit
theorem Both.like {w0 w : World} {pd bb q n frm room k : Nat} {D : Dk} (h : Both w0 w pd bb q n frm room k D) : Calls Try.prog 43 #[.pointer (some ⟨q, 0, none⟩)] w (Ret r43 fun x w' => x = true ∧ Ext w w') := by
 obtain ⟨lptr, cs, J, plx, hB, hA, hJw, hor⟩ := h.ex
 have hcl := hA.len
 obtain ⟨c0, c1, c2, c7, c8, c9, c10, c11, c12, cj⟩ := bC_cell hcl hB
 apply s43_calls
 refine ⟨_, rfl, lptr, by rw [add_plain]; exact c1, ?_⟩
 rcases hor with ⟨rfl, hW⟩ | ⟨rfl, _, _⟩
 ·refine ⟨fun h => absurd h (by simp), fun _ => ?_⟩
  intro w5 hw5
  have hx5 : Ext w w5 := by subst hw5; exact Ext.drew _
  refine ⟨_, rfl, lp plx, by rw [add_plain]; exact c1, _, rfl, (room : Int), by rw [add_plain, add_plain]; exact c8, _, rfl, J.data, by rw [add_plain, add_plain]; exact c10, ?_⟩
  refine cR_of (room_ok (hW.ext hx5)) ?_
  rintro x16 w17 ⟨rfl, hx17⟩
  have hx17' := hx5.trans hx17
  refine ⟨hx17', ?_⟩
  have h1 := hJw.hroom
  have h2 := hJw.hdata
  rw [w64_eq (by omega) (by omega)]
  refine jn_of fun k1 hk1 => ⟨fun _ => ?_, fun h => absurd h (by simp)⟩
  refine ⟨_, rfl, lp plx, by rw [add_plain]; exact c1, _, rfl, (J.count : Int), by rw [add_plain, add_plain]; exact c11, ?_⟩
  refine cR_of (len_ok (hW.ext hx17')) ?_
  rintro x27 w28 ⟨rfl, rfl⟩
  refine ⟨hx17', ?_⟩
  rw [decide_eq_true rfl, hk1]
  refine jn_of fun k2 hk2 => ⟨fun _ => ?_, fun h => absurd h (by simp)⟩
  refine ⟨_, rfl, lp plx, by rw [add_plain]; exact c1, _, rfl, J.broken, by rw [add_plain, add_plain]; exact c12, ?_⟩
  refine cR_of (broken_ok (hW.ext hx17')) ?_
  rintro x43 w44 ⟨rfl, rfl⟩
  refine ⟨hx17', ?_⟩
  rw [beq_self_eq_true, hk2]
  refine jn_of fun k3 hk3 => ⟨fun _ => ?_, fun h => absurd h (by simp)⟩
  obtain ⟨ss, sp, sf, hcs, _⟩ := id hA
  have c5 : w.cell? ⟨q, 2 + 0 + 3, none⟩ = some (.int .i64 (D.changes : Int)) := by
   have := c2 3 (.int .i64 (D.changes : Int)) (by rw [hcs]; rfl)
   rw [add_plain] at this
   exact this
  refine ⟨_, rfl, dp pd, by rw [add_plain]; exact c0, _, rfl, (D.changes : Int), by rw [add_plain, add_plain, add_plain]; exact c5, ?_⟩
  refine cR_of (changes_ok (h.disk.ext hx17')) ?_
  rintro x59 w60 ⟨rfl, rfl⟩
  refine ⟨hx17', ?_⟩
  rw [decide_eq_true rfl, hk3]
  exact ⟨rfl, hx17'⟩
 ·exact ⟨fun _ => ⟨rfl, Ext.refl _⟩, fun h => absurd h (by simp)⟩
theorem Both.later {w0 w w' : World} {pd bb q n frm room k : Nat} {D : Dk} (h : Both w0 w pd bb q n frm room k D) (hx : Ext w w') : Both w0 w' pd bb q n frm room k D := by
 obtain ⟨lptr, cs, J, plx, hB, hA, hJw, hor⟩ := h.ex
 refine ⟨h.play, h.ext.trans hx, h.hq, h.disk.ext hx, lptr, cs, J, plx, hB.ext hx, hA.ext hx, hJw, ?_⟩
 rcases hor with ⟨h1, h2⟩ | h2
 ·exact .inl ⟨h1, h2.ext hx⟩
 ·exact .inr h2
theorem Both.more {w0 w : World} {pd bb q n frm room k m : Nat} {D : Dk} (h : Both w0 w pd bb q n frm room k D) (hm : k ≤ m) : Both w0 w pd bb q n frm room m D :=
 ⟨play_mono h.play hm, h.ext, h.hq, h.disk, h.ex⟩
theorem play_lay (n frm : Nat) (A : List UInt8) : ∀ (f : Nat) {k : Nat} {D : Dk} (i : Nat), Play n k D → Play n (k + f) (layF f D frm A i).1
 | 0, k, D, i, h => h
 | f + 1, k, D, i, h => by
  unfold layF
  split
  ·exact play_mono h (by omega)
  ·have hw := play_write h ((frm + 2 + i : Nat) : Int) (padB A i)
   split
   ·have := play_lay n frm A f (i + 1) hw
    rw [Nat.add_assoc, Nat.add_comm 1 f] at this
    exact this
   ·exact play_mono hw (by omega)
theorem play_add {n k frm room : Nat} {D : Dk} {L : Lg} {l : List (List UInt8)} (h : Play n k D) : Play n (k + (room / 512 + 5)) (addD D L frm room l).1 := by
 have h0 := play_mono h (show k ≤ k + (room / 512 + 5) by omega)
 unfold addD
 split
 ·exact h0
 ·split
  ·exact h0
  ·split
   ·exact h0
   ·rename_i A hg
    have hA := (gather_len _ _ _ hg).2
    split
    ·exact h0
    ·have hl : Play n (k + (A.length / 512 + 1)) (layF (A.length / 512 + 1) D frm A (L.data.length / 512)).1 := play_lay n frm A _ _ h
     have hh : Play n (k + (A.length / 512 + 1) + 3) (addHead (layF (A.length / 512 + 1) D frm A (L.data.length / 512)) frm (L.seq + 1) A.length).1 := by
      unfold addHead
      split
      ·exact play_mono hl (by omega)
      ·have hf := play_flush hl
       split
       ·exact play_mono hf (by omega)
       ·exact play_mono (play_head hf frm (L.seq + 1) A.length) (by omega)
     have h1 := play_mono hh (show k + (A.length / 512 + 1) + 3 ≤ k + (room / 512 + 5) by omega)
     split <;> exact h1
theorem play_reset {n k frm : Nat} {D : Dk} {L : Lg} (h : Play n k D) : Play n (k + 2) (resetD D L frm).1 := by
 have h0 := play_mono h (show k ≤ k + 2 by omega)
 have hh := play_head h frm (L.seq + 1) 0
 unfold resetD
 split
 ·exact h0
 ·split
  ·exact h0
  ·split <;> exact hh
theorem bC_disk {pd frm room seq count : Nat} {data : List UInt8} {br : Bool} {l : Option Addr} {cs cs' : List Value} (hl : cs.length = 5) (hl' : cs'.length = 5) :
  splice (bC pd l (jc cs frm room seq data count br)) 2 cs' = bC pd l (jc cs' frm room seq data count br) := by
 obtain ⟨a, b, c, d, e, rfl⟩ := list5 hl
 obtain ⟨a', b', c', d', e', rfl⟩ := list5 hl'
 rfl
theorem bC_down {pd frm room seq count : Nat} {data : List UInt8} {br : Bool} {l : Option Addr} {ss sp sf : Sl} {c : Int} {d d' : Bool} :
  (bC pd l (jc (rc ss sp sf c d) frm room seq data count br)).set 6 (.bool d') = bC pd l (jc (rc ss sp sf c d') frm room seq data count br) := rfl
theorem bC_falls {pd frm room seq count : Nat} {data : List UInt8} {br : Bool} {l : Option Addr} {ss sp sf s : Sl} {c : Int} {d : Bool} :
  (bC pd l (jc (rc ss sp sf c d) frm room seq data count br)).set 4 s.v = bC pd l (jc (rc ss sp s c d) frm room seq data count br) := rfl
theorem RAt.upIt {w : World} {B : Nat → Prop} {ss sp sf : Sl} {D : Dk} (h : RX w B ss sp sf D) : RAt w B (rc ss sp sf D.changes false) D.up :=
 ⟨ss, sp, sf, rfl, ⟨h.sure, h.pend, h.falls, h.f1, h.f2, h.f3⟩⟩
theorem Both.step {w0 w : World} {pd bb q n frm blocks k : Nat} {D : Dk} (h : Both w0 w pd bb q n frm (roomOf blocks) k D) (h3 : 3 ≤ blocks) (hfit : frm + blocks ≤ n) (hn : n ≤ 4096) (hb7 : blocks ≤ 7) (hk : k < 80000)
  (o : OpJ) (ho : o.Ok w0) (htl : o.texts.length ≤ 6) (hts : ∀ s ∈ o.texts, s.length ≤ 3000) :
  Calls Try.prog 26 #[.pointer (some ⟨q, 0, none⟩), aggv o.cells, .int .i64 (blocks : Int)] w (Ret r26 fun x w' => x = true ∧ ∃ D', Both w0 w' pd bb q n frm (roomOf blocks) (k + 20) D') := by
 obtain ⟨hpd, hpq, hbb, hbq, hpdl, hbbl, hql⟩ := h.lt
 have hq := h.hq
 have hwf := h.disk.wf
 have hP := h.play
 have hPl := hP.len
 have hrm : roomOf blocks ≤ 2560 := by unfold roomOf; omega
 obtain ⟨lptr, cs, J, plx, hBq, hA, hJw, hor⟩ := id h.ex
 have hcl := hA.len
 have hqF : ¬ Foot pd bb q := by rintro (e | e) <;> omega
 -- a journal's pointer lies far
 have hplx : plx < w.heap.size ∧ (lptr = lp plx → w0.heap.size ≤ plx ∧ plx ≠ q) := by
  rcases hor with ⟨e, hW⟩ | ⟨e, _, e2⟩
  ·obtain ⟨a, b, c, d, _⟩ := hW.lt
   exact ⟨d, fun _ => ⟨a.1, a.2⟩⟩
  ·refine ⟨by rw [e2]; omega, fun e' => by rw [e] at e'; cases e'⟩
 obtain ⟨X, hX⟩ : ∃ X : Nat → Prop, X = fun k => Foot pd bb k ∨ (k = plx ∧ k ≠ q) := ⟨_, rfl⟩
 have hXq : ¬ X q := by
  rw [hX]
  rintro (e | e)
  ·exact hqF e
  ·exact e.2 rfl
 have hXb : ∀ {g : Nat}, w.heap.size ≤ g → ¬ X g := by
  intro g hg
  rw [hX]
  rintro ((e | e) | e)
  ·omega
  ·omega
  ·have := hplx.1; have := e.1; omega
 have hXF : ∀ k, Foot pd bb k → X k := fun k hk => by rw [hX]; exact .inl hk
 have hBX : ∀ k, (¬ Foot pd bb k ∧ k ≠ q ∧ k ≠ plx) → ¬ X k := by
  intro k hk
  rw [hX]
  rintro (e | e)
  ·exact hk.1 e
  ·exact hk.2.2 e.1
 have hBn : ∀ {v : World}, w.heap.size ≤ v.heap.size → ∀ k, v.heap.size ≤ k → (¬ Foot pd bb k ∧ k ≠ q ∧ k ≠ plx) := by
  intro v hv k hk
  have := hplx.1
  exact ⟨by rintro (e | e) <;> omega, by omega, by omega⟩
 apply s26_calls
 intro b1 w2 hb1 hw2
 have hx2 : Ext w w2 := Ext.new hw2
 have hB2 : Blk w2 b1 29 o.cells := Blk.new hb1 hw2
 have hwb1 : w.heap.size ≤ b1 := by rw [hb1]; exact Nat.le_refl _
 have hqb1 : q ≠ b1 := by omega
 have h2 := h.later hx2
 have hBq2 := hBq.ext hx2
 have hA2 := hA.ext hx2
 have hx02 := h2.ext
 have hs2 := hx2.size
 obtain ⟨c0, c1, c2, c7, c8, c9, c10, c11, c12, cj⟩ := bC_cell hcl hBq2
 refine jn_of fun k1 hk1 => ?_
 -- they tell the same of themselves
 have tail : ∀ (e : Int) (v : World) (D' : Dk), Both w0 v pd bb q n frm (roomOf blocks) (k + 20) D' → k1 (e, e) v := by
  intro e v D' hv
  rw [hk1]
  refine jn_of fun k2 hk2 => ⟨fun _ => ?_, fun h => absurd h (by simp)⟩
  refine cR_of hv.like ?_
  rintro x120 w121 ⟨rfl, hx121⟩
  rw [hk2]
  exact ⟨rfl, D', hv.later hx121⟩
 -- both are opened again
 have again : ∀ (v : World) (E : Dk) (l' : Option Addr) (cs' : List Value), Play n k E → Ext w0 v → DAt v (fun k => w0.heap.size ≤ k ∧ k ≠ q) pd bb E → Blk v q 54 (bC pd l' (jc cs' frm (roomOf blocks) J.seq J.data J.count J.broken)) → RAt v (fun k => ¬ Foot pd bb k ∧ k ≠ q ∧ k ≠ plx) cs' E →
   cR Try.prog 25 r25 #[.pointer (some ⟨q, 0, none⟩), .int .i64 (blocks : Int)] v fun x w' => x = true ∧ ∃ D', Both w0 w' pd bb q n frm (roomOf blocks) (k + 20) D' := by
  intro v E l' cs' hPE hxv hDv hBv hAv
  refine cR_of (Both.openIt hPE hxv hq hDv hBv (hAv.mono fun k _ hk => ⟨hk.1, hk.2.1⟩) h3 hfit hn (by omega)) ?_
  rintro x w' ⟨rfl, hb⟩
  exact ⟨rfl, _, hb.more (by omega)⟩
 -- what both did is put down
 have finish : ∀ (R : Dk × Lg × Int) (v13 v24 : World) (ys : List Value), Ext w0 v13 → Ext v13 v24 → Blk v13 q 54 (bC pd lptr (jc cs frm (roomOf blocks) J.seq J.data J.count J.broken)) → DAt v13 (fun k => w0.heap.size ≤ k ∧ k ≠ q) pd bb R.1 → LgWf R.2.1 frm (roomOf blocks) →
   ((lptr = lp plx ∧ WAt v13 (fun k => w0.heap.size ≤ k ∧ k ≠ q) pd bb plx frm (roomOf blocks) R.1 R.2.1) ∨ (lptr = none ∧ R.2.1.broken = true ∧ plx = q)) → JAt v24 (fun k => ¬ Foot pd bb k ∧ k ≠ q ∧ k ≠ plx) ys R.1 frm (roomOf blocks) R.2.1 → Play n (k + 20) R.1 →
   stA 11 (Addr.add ⟨q, 0, none⟩ 2) ys v24 fun v27 => k1 (R.2.2, R.2.2) v27 := by
  intro R v13 v24 ys hx013 hx24 hBq13 hD13 hw13 hor13 hJ24 hPR
  rw [add_plain]
  refine stA_blk (hBq13.ext hx24) hJ24.len (by rw [bC_len (jc_len hcl)]; decide) hJ24.one fun v27 hB27 hf27 => ?_
  rw [Nat.zero_add, bC_splice (jc_len hcl) hJ24.len] at hB27
  obtain ⟨cs', e', hA'⟩ := hJ24
  rw [e'] at hB27
  refine tail _ _ R.1 ⟨hPR, hf27.ext (hx013.trans hx24) fun k _ e => by rw [e]; exact hq, hq, (hD13.ext hx24).fr hf27 fun k hk e => hk.2 e, lptr, cs', R.2.1, plx, hB27, hA'.foot hf27 fun k hk => hk.2.1, hw13, ?_⟩
  rcases hor13 with ⟨a1, g, sd, a2⟩ | a
  ·exact .inl ⟨a1, g, sd, (a2.ext hx24).fr hf27 fun k hk e => hk.2 e⟩
  ·exact .inr a
 refine ⟨o.kind, by rw [add_plain]; exact hB2.cell rfl, ?_⟩
 refine ⟨fun _ => ?_, fun _ => ⟨fun _ => ?_, fun _ => ⟨fun _ => ?_, fun _ => ⟨fun _ => ?_, fun _ => ?_⟩⟩⟩⟩
 · -- Add
  intro w6 hw6
  have hx6 : Ext w2 w6 := by subst hw6; exact Ext.drew _
  refine ⟨_, rfl, lptr, by rw [add_plain]; exact c1, o.ts, by rw [add_plain]; exact hB2.cell rfl, ?_⟩
  have hx06 := hx02.trans hx6
  have hs6 := hx6.size
  obtain ⟨R, hR⟩ : ∃ R, R = addD D J frm (roomOf blocks) o.texts := ⟨_, rfl⟩
  -- the program's answer
  have hprog : Calls Try.prog 20 #[.pointer lptr, o.ts.v] w6 (Ret r20 fun x w' => x = R.2.2 ∧ Fr X w6 w' ∧ Ext w0 w' ∧ DAt w' (fun k => w0.heap.size ≤ k ∧ k ≠ q) pd bb R.1 ∧ LgWf R.2.1 frm (roomOf blocks) ∧
    ((lptr = lp plx ∧ WAt w' (fun k => w0.heap.size ≤ k ∧ k ≠ q) pd bb plx frm (roomOf blocks) R.1 R.2.1) ∨ (lptr = none ∧ R.2.1.broken = true ∧ plx = q))) := by
   rcases hor with ⟨e0, hW⟩ | ⟨e0, hbr, hpq'⟩
   ·obtain ⟨z1, z2⟩ := hplx.2 e0
    rw [e0]
    refine Ret.mono (add_ok ((hW.ext hx2).ext hx6) (fun k hk => ⟨Nat.le_trans hx06.size hk, by omega⟩) (hP.bnd (by omega)) o.ts o.texts (ho.ext hx06).texts (by omega) fun s hs => Nat.le_trans (hts s hs) (by decide)) ?_
    rintro x w' ⟨e1, e2, e3⟩
    rw [← hR] at e1 e2
    refine ⟨e1, e3.mono fun k _ hk => ?_, wfootExt e3 hx06 hpd hbb z1, e2.disk, e2.wf, .inl ⟨rfl, e2⟩⟩
    rw [hX]
    rcases hk with hk | hk
    ·exact .inl hk
    ·exact .inr ⟨hk, by rw [hk]; exact z2⟩
   ·have e : R = (D, J, 3) := by rw [hR]; unfold addD; rw [if_pos hbr]
    rw [e0]
    refine Ret.mono (add_nil o.ts) ?_
    rintro x w' ⟨e1, rfl⟩
    rw [e]
    exact ⟨e1, Fr.refl _, hx06, h2.disk.ext hx6, hJw, .inr ⟨rfl, hbr, hpq'⟩⟩
  refine cR_of hprog ?_
  rintro x12 w13 ⟨rfl, hf13, hx013, hD13, hw13, hor13⟩
  have hBq13 := (hBq2.ext hx6).fr hf13 hXq
  have hB13 := (hB2.ext hx6).fr hf13 (hXb hwb1)
  have hA13 := (hA2.ext hx6).foot hf13 hBX
  have hs13 := hf13.size
  obtain ⟨d0, d1, d2, d7, d8, d9, d10, d11, d12, dj⟩ := bC_cell hcl hBq13
  intro w14 hw14
  have hx14 : Ext w13 w14 := by subst hw14; exact Ext.drew _
  refine ⟨_, rfl, jc cs frm (roomOf blocks) J.seq J.data J.count J.broken, jc_len hcl, by rw [add_plain]; exact dj, o.ts, by rw [add_plain]; exact hB13.cell rfl, ?_⟩
  refine cR_of (texts_ok w14 o.ts o.texts (ho.ext (hx013.trans hx14)).texts (by omega)) ?_
  rintro x20 w21 ⟨ho20, hl20, hx21⟩
  have hx21' := hx14.trans hx21
  refine ⟨hx21', ?_⟩
  have hs21 := hx21'.size
  refine cR_of (radd_ok (J := J) ⟨cs, rfl, hA13.ext hx21'⟩ hwf (hP.bnd (by omega)) (hBn (by omega)) hJw x20 o.texts ⟨hl20, ho20.at⟩ (by omega) fun s hs => Nat.le_trans (hts s hs) (by decide)) ?_
  rintro ⟨x23, e23⟩ w24 ⟨he23, hJ24, hx24⟩
  simp only at he23 hJ24
  rw [← hR] at he23 hJ24
  subst he23
  refine ⟨_, rfl, ?_⟩
  exact finish R w13 w24 x23 hx013 (hx21'.trans hx24) hBq13 hD13 hw13 hor13 hJ24 (by rw [hR]; exact play_mono (play_add hP) (by omega))
 · -- Reset
  refine ⟨_, rfl, lptr, by rw [add_plain]; exact c1, ?_⟩
  obtain ⟨R, hR⟩ : ∃ R, R = resetD D J frm := ⟨_, rfl⟩
  have hprog : Calls Try.prog 21 #[.pointer lptr] w2 (Ret r21 fun x w' => x = R.2.2 ∧ Fr X w2 w' ∧ Ext w0 w' ∧ DAt w' (fun k => w0.heap.size ≤ k ∧ k ≠ q) pd bb R.1 ∧ LgWf R.2.1 frm (roomOf blocks) ∧
    ((lptr = lp plx ∧ WAt w' (fun k => w0.heap.size ≤ k ∧ k ≠ q) pd bb plx frm (roomOf blocks) R.1 R.2.1) ∨ (lptr = none ∧ R.2.1.broken = true ∧ plx = q))) := by
   rcases hor with ⟨e0, hW⟩ | ⟨e0, hbr, hpq'⟩
   ·obtain ⟨z1, z2⟩ := hplx.2 e0
    rw [e0]
    refine Ret.mono (reset_ok (hW.ext hx2) (fun k hk => ⟨Nat.le_trans hx02.size hk, by omega⟩) (hP.bnd (by omega))) ?_
    rintro x w' ⟨e1, e2, e3⟩
    rw [← hR] at e1 e2
    refine ⟨e1, e3.mono fun k _ hk => ?_, wfootExt e3 hx02 hpd hbb z1, e2.disk, e2.wf, .inl ⟨rfl, e2⟩⟩
    rw [hX]
    rcases hk with hk | hk
    ·exact .inl hk
    ·exact .inr ⟨hk, by rw [hk]; exact z2⟩
   ·have e : R = (D, J, 3) := by rw [hR]; unfold resetD; rw [if_pos hbr]
    rw [e0]
    refine Ret.mono (reset_nil w2) ?_
    rintro x w' ⟨e1, rfl⟩
    rw [e]
    exact ⟨e1, Fr.refl _, hx02, h2.disk, hJw, .inr ⟨rfl, hbr, hpq'⟩⟩
  refine cR_of hprog ?_
  rintro x12 w13 ⟨rfl, hf13, hx013, hD13, hw13, hor13⟩
  have hBq13 := hBq2.fr hf13 hXq
  have hA13 := hA2.foot hf13 hBX
  have hs13 := hf13.size
  obtain ⟨d0, d1, d2, d7, d8, d9, d10, d11, d12, dj⟩ := bC_cell hcl hBq13
  refine ⟨_, rfl, jc cs frm (roomOf blocks) J.seq J.data J.count J.broken, jc_len hcl, by rw [add_plain]; exact dj, ?_⟩
  refine cR_of (rreset_ok (J := J) ⟨cs, rfl, hA13⟩ hwf (hP.bnd (by omega)) (hBn (by omega)) (by omega) hJw.hseq) ?_
  rintro ⟨x23, e23⟩ w24 ⟨he23, hJ24, hx24⟩
  simp only at he23 hJ24
  rw [← hR] at he23 hJ24
  subst he23
  refine ⟨_, rfl, ?_⟩
  exact finish R w13 w24 x23 hx013 hx24 hBq13 hD13 hw13 hor13 hJ24 (by rw [hR]; exact play_mono (play_reset hP) (by omega))
 · -- the power fails, and comes again
  intro w43 hw43
  have hx43 : Ext w2 w43 := by subst hw43; exact Ext.drew _
  refine ⟨_, rfl, dp pd, by rw [add_plain]; exact c0, fallOf o.fall, rfl, by rw [add_plain]; exact hB2.at rfl, ?_⟩
  refine cR_of (crash_ok (h2.disk.ext hx43) o.fall ho.keep) ?_
  rintro x49 w50 ⟨h50, hf50⟩
  have hBq50 := (hBq2.ext hx43).fr hf50 hqF
  obtain ⟨d0, _⟩ := bC_cell hcl hBq50
  refine ⟨_, rfl, dp pd, by rw [add_plain]; exact d0, ?_⟩
  refine cR_of (up_ok h50) ?_
  rintro x54 w55 ⟨_, h55, hf55⟩
  have hff : Fr (Foot pd bb) w2 w55 := ((Fr.of hx43).trans hf50).trans hf55
  have hBq55 := hBq2.fr hff hqF
  have hB55 := hB2.fr hff (by rintro (e | e) <;> omega)
  have hA55 := hA2.foot hff fun k hk => hk.1
  have hx055 := footExt hff hx02 hpd hbb
  have hs55 := hff.size
  obtain ⟨g0, g1, g2, _⟩ := bC_cell hcl hBq55
  intro w56 hw56
  have hx56 : Ext w55 w56 := by subst hw56; exact Ext.drew _
  refine ⟨_, rfl, cs, hcl, by rw [add_plain, add_plain]; exact g2, fallOf o.fall, rfl, by rw [add_plain]; exact hB55.at rfl, ?_⟩
  have hs56 := hx56.size
  refine cR_of (rcrash_ok w56 cs D (hA55.ext hx56) hwf (hBn (by omega)) o.fall ho.keep) ?_
  rintro x62 w63 ⟨hA63, hx63⟩
  have hxx := hx56.trans hx63
  refine ⟨_, rfl, ?_⟩
  show stA _ _ _ _ _
  rw [add_plain, add_plain]
  refine stA_blk (hBq55.ext hxx) hA63.len (by rw [bC_len (jc_len hcl)]; decide) hA63.one fun w66 hB66 hf66 => ?_
  have hB66 : Blk w66 q 54 (splice (bC pd lptr (jc cs frm (roomOf blocks) J.seq J.data J.count J.broken)) 2 x62) := hB66
  rw [bC_disk hcl hA63.len] at hB66
  have hA66 := hA63.foot hf66 fun k hk => hk.2.1
  obtain ⟨ss, sp, sf, e62, hRX⟩ := hA66
  rw [e62] at hB66
  refine ⟨_, rfl, ?_⟩
  show st1 _ _ _ _
  rw [add_plain, add_plain, add_plain]
  refine st1_blk hB66 (by show 6 < 13; decide) fun w69 hB69 hf69 => ?_
  have hB69 : Blk w69 q 54 (bC pd lptr (jc (rc ss sp sf (D.crash o.fall).changes false) frm (roomOf blocks) J.seq J.data J.count J.broken)) := hB69
  have hfq := hf66.trans hf69
  refine again w69 (D.crash o.fall).up lptr _ (play_up (play_crash hP o.fall)) (hfq.ext (hx055.trans hxx) fun k _ e => by rw [e]; exact hq) ((h55.ext hxx).fr hfq fun k hk e => hk.2 e) hB69 ?_
  exact (RAt.upIt hRX).foot hf69 fun k hk => hk.2.1
 · -- a fall is planned
  refine ⟨fallOf o.fall, rfl, by rw [add_plain]; exact hB2.at rfl, rfl, fall_one _, fun b74 w75 hb74 hw75 => ?_⟩
  have hx75 : Ext w2 w75 := Ext.new hw75
  have hB75 : Blk w75 b74 27 (fallOf o.fall) := Blk.new hb74 hw75
  have hwb74 : w.heap.size ≤ b74 := by rw [hb74]; exact hs2
  have hq74 : q ≠ b74 := by omega
  intro w76 hw76
  have hx76 : Ext w75 w76 := by subst hw76; exact Ext.drew _
  obtain ⟨d0, _⟩ := bC_cell hcl (hBq2.ext hx75)
  refine ⟨_, rfl, dp pd, by rw [add_plain]; exact d0, o.fall.1, by rw [add_plain]; exact hB75.cell rfl, ?_⟩
  refine cR_of (changes_ok ((h2.disk.ext hx75).ext hx76)) ?_
  rintro x82 w83 ⟨rfl, rfl⟩
  refine ⟨hx76, ?_⟩
  show st1 _ _ _ _
  rw [add_plain]
  refine st1_blk (hB75.ext hx76) (by simp [fallOf]) fun w85 hB85 hf85 => ?_
  obtain ⟨f', hf'⟩ : ∃ f' : Fall, f' = (IntKind.i64.wrap ((D.changes : Int) + IntKind.i64.wrap (Int.tmod (IntKind.u64.wrap o.fall.1) 9)), o.fall.2.1, o.fall.2.2) := ⟨_, rfl⟩
  have hB85 : Blk w85 b74 27 (fallOf f') := by rw [hf']; exact hB85
  have hkf : 0 ≤ f'.2.1 ∧ f'.2.1 < 18446744073709551616 := by rw [hf']; exact ho.keep
  clear hf'
  have hx85 : Ext w w85 := hf85.ext ((hx2.trans hx75).trans hx76) fun k _ e => by rw [e]; exact hwb74
  have hBq85 := hBq.ext hx85
  intro w86 hw86
  have hx86 : Ext w85 w86 := by subst hw86; exact Ext.drew _
  obtain ⟨g0, _⟩ := bC_cell hcl hBq85
  refine ⟨_, rfl, dp pd, by rw [add_plain]; exact g0, fallOf f', rfl, hB85.at rfl, rfl, fall_one _, fun b92 w93 hb92 hw93 => ?_⟩
  have hx93 : Ext w86 w93 := Ext.new hw93
  have hxw93 := (hx85.trans hx86).trans hx93
  have hs93 := hxw93.size
  have hfc : fallC [f'] = fallOf f' := by simp [fallC]
  have hx093 := h.ext.trans hxw93
  have hplan : Calls Try.prog 37 #[.pointer (dp pd), (⟨some ⟨b92, 0, none⟩, 1, 1⟩ : Sl).v] w93 (Ret r37 fun _ w' => Fr (Foot pd bb) w93 w' ∧ DAt w' (fun k => w0.heap.size ≤ k ∧ k ≠ q) pd bb (Dk.plan D [f']) ∧
    ((lptr = lp plx ∧ WAt w' (fun k => w0.heap.size ≤ k ∧ k ≠ q) pd bb plx frm (roomOf blocks) (Dk.plan D [f']) J) ∨ (lptr = none ∧ J.broken = true ∧ plx = q))) := by
   have hat : AtO w93 (⟨some ⟨b92, 0, none⟩, 1, 1⟩ : Sl).a (fallC [f']) := by rw [hfc]; exact At.new hb92 hw93
   rcases hor with ⟨e0, hW⟩ | ⟨e0, hbr, hpq'⟩
   ·obtain ⟨g, sd, hWX⟩ := hW.ext hxw93
    have hgl := hWX.glt
    have hpl93 := hWX.lt.1
    refine Ret.mono (plan_ok hWX.disk ⟨some ⟨b92, 0, none⟩, 1, 1⟩ [f'] rfl hat (by intro h; cases h) (by simp) (fun k hk => ⟨⟨⟨Nat.le_trans hx093.size hk, by omega⟩, by omega⟩, by omega⟩) (by intro z hz; rw [List.mem_singleton.1 hz]; exact hkf)) ?_
    rintro x w' ⟨a1, a2⟩
    exact ⟨a2, a1.mono fun k _ hk => hk.1.1, .inl ⟨e0, g, sd, hWX.setDisk a1 a2⟩⟩
   ·refine Ret.mono (plan_ok (h.disk.ext hxw93) ⟨some ⟨b92, 0, none⟩, 1, 1⟩ [f'] rfl hat (by intro h; cases h) (by simp) (fun k hk => ⟨Nat.le_trans hx093.size hk, by omega⟩) (by intro z hz; rw [List.mem_singleton.1 hz]; exact hkf)) ?_
    rintro x w' ⟨a1, a2⟩
    exact ⟨a2, a1, .inr ⟨e0, hbr, hpq'⟩⟩
  refine cR_of hplan ?_
  rintro x95 w96 ⟨hf96, hD96, hor96⟩
  have hB96 := ((hB85.ext hx86).ext hx93).fr hf96 (by rintro (e | e) <;> omega)
  have hBq96 := (hBq.ext hxw93).fr hf96 hqF
  have hA96 := (hA.ext hxw93).foot hf96 fun k hk => hk.1
  have hs96 := hf96.size
  refine ⟨fallOf f', rfl, hB96.at rfl, rfl, fall_one _, fun b98 w99 hb98 hw99 => ?_⟩
  have hx99 : Ext w96 w99 := Ext.new hw99
  have hB98 : Blk w99 b98 27 (fallOf f') := Blk.new hb98 hw99
  obtain ⟨ss, sp, sf, ecs, hRX⟩ := hA96.ext hx99
  have hBq99 := hBq96.ext hx99
  rw [ecs] at hBq99
  have hwb98 : w.heap.size ≤ b98 := by omega
  refine ⟨_, rfl, ?_⟩
  show st1 _ _ _ _
  rw [add_plain, add_plain, add_plain]
  refine st1_blk hBq99 (by show 4 < 13; decide) fun w102 hB102 hf102 => ?_
  have hB102 : Blk w102 q 54 (bC pd lptr (jc (rc ss sp ⟨some ⟨b98, 0, none⟩, 1, 1⟩ D.changes D.down) frm (roomOf blocks) J.seq J.data J.count J.broken)) := hB102
  have hfa : FallsAt w99 ⟨some ⟨b98, 0, none⟩, 1, 1⟩ [f'] := ⟨rfl, Nat.le_refl _, by rw [hfc]; exact hB98.at rfl, (fun h => by cases h), by intro z hz; rw [List.mem_singleton.1 hz]; exact hkf⟩
  have hfar : Far (fun k => ¬ Foot pd bb k ∧ k ≠ q ∧ k ≠ plx) ⟨some ⟨b98, 0, none⟩, 1, 1⟩ := by
   intro _ a ha
   cases ha
   exact hBn (v := w) (Nat.le_refl _) b98 hwb98
  have hA99 : RAt w99 (fun k => ¬ Foot pd bb k ∧ k ≠ q ∧ k ≠ plx) (rc ss sp ⟨some ⟨b98, 0, none⟩, 1, 1⟩ D.changes D.down) (Dk.plan D [f']) := ⟨ss, sp, _, rfl, plan_rat hRX hfa hfar⟩
  have hx096 := footExt hf96 hx093 hpd hbb
  refine tail 0 w102 (Dk.plan D [f']) ⟨play_mono (play_plan hP _) (by omega), hf102.ext (hx096.trans hx99) fun k _ e => by rw [e]; exact hq, hq, (hD96.ext hx99).fr hf102 fun k hk e => hk.2 e, lptr, _, J, plx, hB102, hA99.foot hf102 fun k hk => hk.2.1, hJw, ?_⟩
  rcases hor96 with ⟨a1, g, sd, a2⟩ | a
  ·exact .inl ⟨a1, g, sd, (a2.ext hx99).fr hf102 fun k hk e => hk.2 e⟩
  ·exact .inr a
 · -- it is opened
  refine ⟨_, rfl, dp pd, by rw [add_plain]; exact c0, ?_⟩
  refine cR_of (up_ok h2.disk) ?_
  rintro x106 w107 ⟨_, h107, hf107⟩
  have hBq107 := hBq2.fr hf107 hqF
  have hA107 := hA2.foot hf107 fun k hk => hk.1
  obtain ⟨ss, sp, sf, ecs, hRX⟩ := hA107
  rw [ecs] at hBq107
  refine ⟨_, rfl, ?_⟩
  show st1 _ _ _ _
  rw [add_plain, add_plain, add_plain]
  refine st1_blk hBq107 (by show 6 < 13; decide) fun w110 hB110 hf110 => ?_
  have hB110 : Blk w110 q 54 (bC pd lptr (jc (rc ss sp sf D.changes false) frm (roomOf blocks) J.seq J.data J.count J.broken)) := hB110
  refine again w110 D.up lptr _ (play_up hP) (hf110.ext (footExt hf107 hx02 hpd hbb) fun k _ e => by rw [e]; exact hq) (h107.fr hf110 fun k hk e => hk.2 e) hB110 ?_
  exact (RAt.upIt hRX).foot hf110 fun k hk => hk.2.1
end Go.Proofs.Ytagkcbbbdlmcjaa
end
section
/- From a row's reading of the journal's scripts to facts on their cells. -/
namespace Go.Proofs.Ytagkcbbbdlmcjaa
open Go.Lift Go.Lift.Disk Go.RowKit Go.ChangeShapes Go.WideShapes Go.ChangeAt Go.Deep
instance : Inhabited OpJ := ⟨⟨0, nilSl, [], default⟩⟩
section
variable {H : Type} {enc : TypeId × Value → H} {w : World} {base : Nat} {held : Bool}
set_option maxRecDepth 100000 in
theorem open_opj {fuel : Nat} {cs : List Value} {x : DataW H × List MemPlace} (hl : cs.length = 5) (h : DataW.trod enc Try.prog w base (fun _ => true) held fuel 29 cs = some x) : ∃ o : OpJ, cs = o.cells ∧ o.Ok w := by
 obtain ⟨xs, n, _, _, _, hxl, hf⟩ := DataW.trod_struct Try.underlying29 h
 match cs, hl with
 | [c0, c1, c2, c3, c4], _ =>
  have f0 := hf 0 _ rfl
  have f1 := hf 1 _ rfl
  have f2 := hf 2 _ rfl
  rw [List.getElem?_eq_getElem (by rw [hxl]; decide)] at f0 f1 f2
  obtain ⟨n0, e0, _, w0⟩ := DataW.trod_int Try.underlying3 f0
  have k3 : Try.prog.cellsOf 3 = 1 := by kernel_rfl
  have k22 : Try.prog.cellsOf 22 = 1 := by kernel_rfl
  have k27 : Try.prog.cellsOf 27 = 3 := by kernel_rfl
  have hl2 : (([c0, c1, c2, c3, c4].drop 2).take (Try.prog.cellsOf 27)).length = 3 := by rw [k27]; rfl
  obtain ⟨s1, e1, _, _, l1, hp1, _⟩ := Go.Lift.open_parts Try.underlying22 Try.underlying39 Try.underlying5 (by kernel_rfl) (by kernel_rfl) f1
  obtain ⟨fl, e2, hk⟩ := open_fall hl2 f2
  have g0 : ([c0, c1, c2, c3, c4].drop 0).take (Try.prog.cellsOf 3) = _ := e0; clear e0
  have g1 : ([c0, c1, c2, c3, c4].drop 1).take (Try.prog.cellsOf 22) = _ := e1; clear e1
  have g2 : ([c0, c1, c2, c3, c4].drop 2).take (Try.prog.cellsOf 27) = _ := e2; clear e2
  rw [k3] at g0
  rw [k22] at g1
  rw [k27] at g2
  simp only [List.drop_zero, List.drop_succ_cons, List.take_succ_cons, List.take_zero, List.cons.injEq, and_true] at g0 g1
  simp only [fallOf, List.drop_zero, List.drop_succ_cons, List.take_succ_cons, List.take_zero, List.cons.injEq, and_true] at g2
  obtain ⟨g2, g2b, g2c⟩ := g2
  subst g0; subst g1; subst g2; subst g2b; subst g2c
  exact ⟨⟨n0, s1, l1, fl⟩, rfl, hp1, hk⟩
theorem open_30 {fuel : Nat} {cs : List Value} {x : DataW H × List MemPlace} (h : DataW.trod enc Try.prog w base (fun _ => true) held fuel 30 cs = some x) : ∃ s : Sl, cs = [s.v] ∧ s.len ≤ s.cap ∧ s.cap ≤ maxLen ∧ ∃ l, OpsJ w s l := by
 have cO : Try.prog.cellsOf 29 = 5 := by kernel_rfl
 rcases open_slice Try.underlying30 h with ⟨rfl, _⟩ | ⟨a, len, cap, m, n, D, Pl, rfl, _, hl, hm, hmm, _, hx⟩
 ·exact ⟨nilSl, rfl, Nat.le_refl _, Nat.zero_le _, [], rfl, rfl, by simp⟩
 ·have hmc : m = cap := by simpa using hmm
  obtain ⟨f, hf⟩ := choose_fn (p := fun i (o : OpJ) => At w (a.add (i * 5)) o.cells ∧ o.Ok w) (q := fun i => i < len) (fun i hi => by
   obtain ⟨cs', h1, h2⟩ := hx i (by omega)
   rw [cO] at h1
   obtain ⟨h3, h4⟩ := at_cells h1
   obtain ⟨f, rfl, hk⟩ := open_opj h4 h2
   exact ⟨f, h3, hk⟩)
  refine ⟨⟨some a, len, cap⟩, rfl, hl, hm, (List.range len).map f, by simp, ?_, ?_⟩
  ·have := at_rows (w := w) (a := a) (n := 5) (fun i => (f i).cells) (fun _ => rfl) len fun i hi => (hf i hi).1
   show At w a _
   rw [List.flatMap_map]
   exact this
  ·intro g hg
   obtain ⟨i, hi, rfl⟩ := List.mem_map.1 hg
   exact (hf i (List.mem_range.1 hi)).2
end
end Go.Proofs.Ytagkcbbbdlmcjaa
end
section
/- The typed readings of the functions, and that the program meets each: written by gen.py (a program of this session). -/
namespace Go.Proofs.Ytagkcbbbdlmcjaa
open Go.Lift
set_option maxRecDepth 100000 in
set_option maxHeartbeats 4000000 in
theorem s10_calls (K : Bool → World → Prop) (p0 : List Value) (p1 : Sl) (p2 : Sl) (w : World) (h : s10 K p0 p1 p2 w) :
  Calls Try.prog 10 #[aggv p0, Sl.v p1, Sl.v p2] w (Ret r10 K) := by
 unfold s10 at h
 refine calls_of_CW (n := 139) Try.func10 rfl rfl rfl ?_
 refine CW.seq ?_
 refine CW.region ?_
 obtain ⟨b1, hb1_⟩ : ∃ b_, b_ = w.heap.size := ⟨_, rfl⟩
 obtain ⟨w2, hw2_⟩ : ∃ w_, w_ = w.alloc (.cells (List.toArray p0) 81) := ⟨_, rfl⟩
 have h := h b1 w2 hb1_ hw2_
 refine RL.opS trivial rfl (OpW.boxE (cs := p0) (rfl) hb1_ hw2_ ?_)
 refine RL.opS trivial rfl (OpW.assign (v := .bool false) rfl ?_)
 refine RL.nil ?_
 refine CW.seq ?_
 refine CW.seq ?_
 refine CW.region ?_
 refine RL.opS trivial rfl (OpW.callR (al := []) Try.func13 fb_13 fn_13 rfl h (fun x3 w4 h => ?_))
 refine RL.opS trivial rfl (OpW.not rfl ?_)
 refine RL.opS trivial rfl (OpW.move (v := .bool (!x3)) rfl ?_)
 refine jn_elim h ?_; clear h; intro k144 hk145 h
 refine RL.joinAt (A := Bool) 4 (fun s7 ρ => ρ 25 = .bool s7 ∧ ρ 1 = Sl.v p1 ∧ ρ 2 = Sl.v p2 ∧ ρ 3 = .pointer (some ⟨b1, 0, none⟩)) k144 ?_ ?_
 ·rintro s7 ρ w8 ⟨e9, e10, e11, e12⟩ h
  subst hk145
  dsimp only [List.drop]
  refine RL.opS trivial rfl (OpW.move (v := .bool s7) e9 ?_)
  refine jn_elim h ?_; clear h; intro k142 hk143 h
  refine RL.joinAt (A := Bool) 6 (fun s19 ρ => ρ 32 = .bool s19 ∧ ρ 1 = Sl.v p1 ∧ ρ 2 = Sl.v p2 ∧ ρ 3 = .pointer (some ⟨b1, 0, none⟩)) k142 ?_ ?_
  ·rintro s19 ρ w20 ⟨e21, e22, e23, e24⟩ h
   subst hk143
   dsimp only [List.drop]
   refine RL.nil ?_
   obtain ⟨ha, hc⟩ := h
   refine CW.cond (b := s19) e21 (fun hb25 => ?_) (fun hb25 => ?_)
   ·have h := ha hb25; clear ha hc
    refine CW.seq ?_
    refine CW.region ?_
    refine RL.opS trivial rfl (OpW.callR (al := []) Try.func13 fb_13 fn_13 rfl h (fun x26 w27 h => ?_))
    refine RL.opS trivial rfl (OpW.assign (v := .bool x26) rfl ?_)
    refine RL.nil ?_
    refine CW.ret ?_
    exact ret_intro (res1 rfl rfl) ⟨x26, rfl, h⟩
   ·have h := hc hb25; clear ha hc
    refine CW.skip ?_
    refine CW.seq ?_
    refine CW.region ?_
    refine RL.opS trivial rfl (OpW.assign (v := str []) rfl ?_)
    refine RL.nil ?_
    refine CW.seq ?_
    refine CW.seq ?_
    refine CW.region ?_
    refine RL.opS trivial rfl (OpW.move (v := Sl.v p2) e23 ?_)
    refine RL.opS trivial rfl (OpW.len (s := p2) slice_22 rfl ?_)
    refine RL.opS trivial rfl (OpW.move (v := .int .i64 0) rfl ?_)
    refine RL.nil ?_
    refine CW.block ?_
    obtain ⟨I140, mu141, hI, hs⟩ := h
    refine CW.loop (σ := List UInt8 × Int) (fun s28 ρ => ρ 7 = str s28.1 ∧ ρ 36 = .int .i64 s28.2 ∧ ρ 1 = Sl.v p1 ∧ ρ 3 = .pointer (some ⟨b1, 0, none⟩) ∧ ρ 34 = Sl.v p2 ∧ ρ 35 = .int .i64 (p2.len : Int)) I140 mu141 ([], 0) ⟨rfl, rfl, e22, e24, rfl, rfl⟩ hI ?_
    rintro s28 ρ w29 ⟨e31, e32, e33, e34, e35, e36⟩ hI
    have h := hs s28 w29 hI
    clear hs hI
    refine CW.seq ?_
    refine CW.region ?_
    refine RL.opS trivial rfl (OpW.bin (k := .i64) (a := s28.2) (b := (p2.len : Int)) (v := .bool (decide (s28.2 < (p2.len : Int)))) e32 e36 rfl ?_)
    refine RL.nil ?_
    refine CW.seq ?_
    obtain ⟨ha, hc⟩ := h
    refine CW.cond (b := (decide (s28.2 < (p2.len : Int)))) rfl (fun hb37 => ?_) (fun hb37 => ?_)
    ·have h := ha hb37; clear ha hc
     refine CW.skip ?_
     refine CW.seq ?_
     refine CW.block ?_
     refine CW.seq ?_
     refine CW.region ?_
     obtain ⟨a38_, a38, h1, h2, h3, h4, h⟩ := h
     refine RL.opS trivial rfl (OpW.indexE (a' := a38) slice_22 e35 e32 h1 h2 h3 h4 ?_)
     obtain ⟨x40, h1, h⟩ := h
     refine RL.opS trivial rfl (OpW.load1 (v := Sl.v x40) one_39 rfl h1 ?_)
     refine RL.opS trivial rfl (OpW.assign (v := Sl.v x40) rfl ?_)
     refine RL.nil ?_
     refine CW.region ?_
     refine RL.opS trivial rfl (OpW.move (v := str s28.1) e31 ?_)
     refine RL.opS trivial rfl (OpW.move (v := Sl.v x40) rfl ?_)
     obtain ⟨x41, h1, h2, h⟩ := h
     refine RL.opS trivial rfl (OpW.b2s bsl_39 str_9 rfl h1 h2 ?_)
     refine RL.opS trivial rfl (OpW.callR (al := [str x41]) Try.func18 fb_18 fn_18 rfl h (fun x42 w43 h => ?_))
     obtain ⟨hq_, h⟩ := h
     refine RL.opS trivial rfl (OpW.strAdd rfl rfl hq_ ?_)
     refine RL.opS trivial rfl (OpW.assign (v := str (s28.1 ++ x42)) rfl ?_)
     refine RL.nil ?_
     refine CW.region ?_
     refine RL.opS trivial rfl (OpW.bin (k := .i64) (a := s28.2) (b := 1) (v := .int .i64 (IntKind.i64.wrap (s28.2 + 1))) e32 rfl rfl ?_)
     refine RL.opS trivial rfl (OpW.move (v := .int .i64 (IntKind.i64.wrap (s28.2 + 1))) rfl ?_)
     refine RL.nil ?_
     exact ⟨((s28.1 ++ x42), (IntKind.i64.wrap (s28.2 + 1))), ⟨rfl, rfl, e33, e34, e35, e36⟩, h⟩
    ·have h := hc hb37; clear ha hc
     refine CW.exit ?_
     refine CW.seq ?_
     obtain ⟨w44, hw44_⟩ : ∃ w_, w_ = w29.drew := ⟨_, rfl⟩
     have h := h w44 hw44_
     have hx45 : Ext w29 w44 := by rw [hw44_]; exact Ext.drew _
     refine CW.draws (m := 16) (listed := #[F,F,F,F,F,F,F,F,F,F,F,F,F,F,F,F]) mixed [0, 1, 2, 3, 4, 5, 6, 7, 8, 9, 10, 11, 12, 13, 14, 15] (Ext w29) rfl rfl ?_
     rw [← hw44_]
     refine DL.takeP (listed' := #[T,F,F,F,F,F,F,F,F,F,F,F,F,F,F,F]) (v := Sl.v p1) 0 rfl rfl (by kernel_rfl) rfl trivial rfl (fun w_ K_ h_ => OpW.move (v := Sl.v p1) e33 h_) ?_
     refine DL.takeP (listed' := #[T,T,F,F,F,F,F,F,F,F,F,F,F,F,F,F]) (v := Sl.v p1) 1 rfl rfl (by kernel_rfl) rfl trivial rfl (fun w_ K_ h_ => OpW.move (v := Sl.v p1) e33 h_) ?_
     refine DL.takeP (listed' := #[T,T,T,F,F,F,F,F,F,F,F,F,F,F,F,F]) (v := .int .i64 (p1.len : Int)) 2 rfl rfl (by kernel_rfl) rfl trivial rfl (fun w_ K_ h_ => OpW.len (s := p1) slice_39 rfl h_) ?_
     refine DL.takeP (listed' := #[T,T,T,T,F,F,F,F,F,F,F,F,F,F,F,F]) (v := .int .i64 (IntKind.i64.wrap (Int.tdiv (p1.len : Int) 2))) 3 rfl rfl (by kernel_rfl) rfl trivial rfl (fun w_ K_ h_ => OpW.quo (a := (p1.len : Int)) (b := 2) (v := .int .i64 (IntKind.i64.wrap (Int.tdiv (p1.len : Int) 2))) rfl rfl (by decide) rfl h_) ?_
     obtain ⟨⟨h1, h2, h3⟩, h⟩ := h
     refine DL.takeP (listed' := #[T,T,T,T,T,F,F,F,F,F,F,F,F,F,F,F]) (v := Sl.v (p1.cut 1 0 (IntKind.i64.wrap (Int.tdiv (p1.len : Int) 2)) p1.cap)) 4 rfl rfl (by kernel_rfl) rfl trivial rfl (fun w_ K_ h_ => OpW.sliceSl (l := 0) (h := (IntKind.i64.wrap (Int.tdiv (p1.len : Int) 2))) slice_39 rfl rfl ⟨_, rfl⟩ h1 h2 (.inr h3) h_) ?_
     obtain ⟨x46, h1, h2, h⟩ := h
     refine DL.takeK (listed' := #[T,T,T,T,T,T,F,F,F,F,F,F,F,F,F,F]) (v := str x46) 5 rfl rfl (by kernel_rfl) (by kernel_rfl) rfl trivial rfl hx45 (fun w_ hS_ K_ h_ => OpW.b2s bsl_39 str_9 rfl h1 (hS_.atO h2) h_) ?_
     refine DL.takeP (listed' := #[T,T,T,T,T,T,T,F,F,F,F,F,F,F,F,F]) (v := str s28.1) 6 rfl rfl (by kernel_rfl) rfl trivial rfl (fun w_ K_ h_ => OpW.move (v := str s28.1) e31 h_) ?_
     obtain ⟨hq_, h⟩ := h
     refine DL.takeP (listed' := #[T,T,T,T,T,T,T,T,F,F,F,F,F,F,F,F]) (v := str (x46 ++ s28.1)) 7 rfl rfl (by kernel_rfl) rfl trivial rfl (fun w_ K_ h_ => OpW.strAdd rfl rfl hq_ h_) ?_
     refine DL.takeP (listed' := #[T,T,T,T,T,T,T,T,T,F,F,F,F,F,F,F]) (v := Sl.v p1) 8 rfl rfl (by kernel_rfl) rfl trivial rfl (fun w_ K_ h_ => OpW.move (v := Sl.v p1) e33 h_) ?_
     refine DL.takeP (listed' := #[T,T,T,T,T,T,T,T,T,T,F,F,F,F,F,F]) (v := Sl.v p1) 9 rfl rfl (by kernel_rfl) rfl trivial rfl (fun w_ K_ h_ => OpW.move (v := Sl.v p1) e33 h_) ?_
     refine DL.takeP (listed' := #[T,T,T,T,T,T,T,T,T,T,T,F,F,F,F,F]) (v := .int .i64 (p1.len : Int)) 10 rfl rfl (by kernel_rfl) rfl trivial rfl (fun w_ K_ h_ => OpW.len (s := p1) slice_39 rfl h_) ?_
     refine DL.takeP (listed' := #[T,T,T,T,T,T,T,T,T,T,T,T,F,F,F,F]) (v := .int .i64 (IntKind.i64.wrap (Int.tdiv (p1.len : Int) 2))) 11 rfl rfl (by kernel_rfl) rfl trivial rfl (fun w_ K_ h_ => OpW.quo (a := (p1.len : Int)) (b := 2) (v := .int .i64 (IntKind.i64.wrap (Int.tdiv (p1.len : Int) 2))) rfl rfl (by decide) rfl h_) ?_
     obtain ⟨⟨h1, h2⟩, h⟩ := h
     refine DL.takeP (listed' := #[T,T,T,T,T,T,T,T,T,T,T,T,T,F,F,F]) (v := Sl.v (p1.cut 1 (IntKind.i64.wrap (Int.tdiv (p1.len : Int) 2)) (p1.len : Int) p1.cap)) 12 rfl rfl (by kernel_rfl) rfl trivial rfl (fun w_ K_ h_ => OpW.sliceSl (l := (IntKind.i64.wrap (Int.tdiv (p1.len : Int) 2))) (h := (p1.len : Int)) slice_39 rfl ⟨_, rfl⟩ rfl h1 h2 (.inl rfl) h_) ?_
     obtain ⟨x47, h1, h2, h⟩ := h
     refine DL.takeK (listed' := #[T,T,T,T,T,T,T,T,T,T,T,T,T,T,F,F]) (v := str x47) 13 rfl rfl (by kernel_rfl) (by kernel_rfl) rfl trivial rfl hx45 (fun w_ hS_ K_ h_ => OpW.b2s bsl_39 str_9 rfl h1 (hS_.atO h2) h_) ?_
     obtain ⟨hq_, h⟩ := h
     refine DL.takeP (listed' := #[T,T,T,T,T,T,T,T,T,T,T,T,T,T,T,F]) (v := str ((x46 ++ s28.1) ++ x47)) 14 rfl rfl (by kernel_rfl) rfl trivial rfl (fun w_ K_ h_ => OpW.strAdd rfl rfl hq_ h_) ?_
     refine DL.takeP (listed' := #[T,T,T,T,T,T,T,T,T,T,T,T,T,T,T,T]) (v := str ((x46 ++ s28.1) ++ x47)) 15 rfl rfl (by kernel_rfl) rfl trivial rfl (fun w_ K_ h_ => OpW.assign (v := str ((x46 ++ s28.1) ++ x47)) rfl h_) ?_
     refine DL.done (by kernel_rfl) ?_
     refine CW.seq ?_
     refine CW.block ?_
     obtain ⟨I138, mu139, hI, hs⟩ := h
     refine CW.loop (σ := List UInt8) (fun s48 ρ => ρ 7 = str s48 ∧ ρ 3 = .pointer (some ⟨b1, 0, none⟩)) I138 mu139 ((x46 ++ s28.1) ++ x47) ⟨rfl, e34⟩ hI ?_
     rintro s48 ρ w49 ⟨e51, e52⟩ hI
     have h := hs s48 w49 hI
     clear hs hI
     refine CW.seq ?_
     refine CW.seq ?_
     refine CW.region ?_
     refine RL.opS trivial rfl (OpW.move (v := str s48) e51 ?_)
     refine RL.opS trivial rfl (OpW.lenStr us_9 rfl ?_)
     refine RL.opS trivial rfl (OpW.bin (k := .i64) (a := (s48.length : Int)) (b := 1536) (v := .bool (decide ((s48.length : Int) < 1536))) rfl rfl rfl ?_)
     refine RL.nil ?_
     obtain ⟨ha, hc⟩ := h
     refine CW.cond (b := (decide ((s48.length : Int) < 1536))) rfl (fun hb53 => ?_) (fun hb53 => ?_)
     ·have h := ha hb53; clear ha hc
      refine CW.skip ?_
      refine CW.block ?_
      refine CW.region ?_
      refine RL.opS trivial rfl (OpW.move (v := str s48) e51 ?_)
      obtain ⟨hq_, h⟩ := h
      refine RL.opS trivial rfl (OpW.strAdd rfl rfl hq_ ?_)
      refine RL.opS trivial rfl (OpW.assign (v := str (s48 ++ [0])) rfl ?_)
      refine RL.nil ?_
      exact ⟨(s48 ++ [0]), ⟨rfl, e52⟩, h⟩
     ·have h := hc hb53; clear ha hc
      refine CW.exit ?_
      refine CW.seq ?_
      refine CW.region ?_
      refine RL.opS trivial rfl (OpW.callR (al := [.int .i64 5]) Try.func15 fb_15 fn_15 rfl h (fun x54 w55 h => ?_))
      refine RL.opS trivial rfl (OpW.move (v := .tuple #[.pointer x54.1, .int .i64 x54.2]) rfl ?_)
      refine RL.opS trivial rfl (OpW.extract (v := .pointer x54.1) rfl rfl ?_)
      refine RL.opS trivial rfl (OpW.extract (v := .int .i64 x54.2) rfl rfl ?_)
      refine RL.opS trivial rfl (OpW.assign (v := .pointer x54.1) rfl ?_)
      refine RL.opS trivial rfl (OpW.assign (v := .int .i64 x54.2) rfl ?_)
      refine RL.nil ?_
      refine CW.seq ?_
      refine CW.region ?_
      refine RL.opS trivial rfl (OpW.callR (al := [.int .i64 5]) Try.func24 fb_24 fn_24 rfl h (fun x56 w57 h => ?_))
      obtain ⟨hl_b58, ho_b58, h⟩ := h
      obtain ⟨b58, hb58_⟩ : ∃ b_, b_ = w57.heap.size := ⟨_, rfl⟩
      obtain ⟨w59, hw59_⟩ : ∃ w_, w_ = w57.alloc (.cells (List.toArray x56) 49) := ⟨_, rfl⟩
      have h := h b58 w59 hb58_ hw59_
      refine RL.opS trivial rfl (OpW.allocZ (b := b58) zero_49 hb58_ ?_)
      refine RL.opN trivial (OpW.storeF (zs := [Value.slice none 0 0, Value.slice none 0 0, Value.slice none 0 0, Value.int .i64 0, Value.bool false]) (cs := x56) size_49 rfl rfl hl_b58 (by decide) ho_b58 hb58_ hw59_ ?_)
      refine RL.nil ?_
      refine CW.seq ?_
      refine CW.seq ?_
      refine CW.region ?_
      refine RL.opS trivial rfl (OpW.move (v := .int .i64 0) rfl ?_)
      refine RL.nil ?_
      refine CW.block ?_
      obtain ⟨I136, mu137, hI, hs⟩ := h
      refine CW.loop (σ := Int) (fun s60 ρ => ρ 71 = .int .i64 s60 ∧ ρ 3 = .pointer (some ⟨b1, 0, none⟩) ∧ ρ 7 = str s48 ∧ ρ 10 = .pointer x54.1 ∧ ρ 12 = .pointer (some ⟨b58, 0, none⟩)) I136 mu137 0 ⟨rfl, e52, e51, rfl, rfl⟩ hI ?_
      rintro s60 ρ w61 ⟨e63, e64, e65, e66, e67⟩ hI
      have h := hs s60 w61 hI
      clear hs hI
      refine CW.seq ?_
      refine CW.region ?_
      refine RL.opS trivial rfl (OpW.bin (k := .i64) (a := s60) (b := 5) (v := .bool (decide (s60 < 5))) e63 rfl rfl ?_)
      refine RL.nil ?_
      refine CW.seq ?_
      obtain ⟨ha, hc⟩ := h
      refine CW.cond (b := (decide (s60 < 5))) rfl (fun hb68 => ?_) (fun hb68 => ?_)
      ·have h := ha hb68; clear ha hc
       refine CW.skip ?_
       refine CW.seq ?_
       refine CW.block ?_
       refine CW.seq ?_
       refine CW.region ?_
       refine RL.opS trivial rfl (OpW.move (v := .int .i64 s60) e63 ?_)
       refine RL.opS trivial rfl (OpW.assign (v := .int .i64 s60) rfl ?_)
       refine RL.nil ?_
       refine CW.seq ?_
       refine CW.region ?_
       refine RL.opS trivial rfl (OpW.move (v := str s48) e65 ?_)
       refine RL.opS trivial rfl (OpW.move (v := .int .i64 s60) rfl ?_)
       refine RL.opS trivial rfl (OpW.bin (k := .i64) (a := s60) (b := 2) (v := .int .i64 (IntKind.i64.wrap (s60 - 2))) rfl rfl rfl ?_)
       refine RL.opS trivial rfl (OpW.max2 (a := 0) (b := (IntKind.i64.wrap (s60 - 2))) rfl rfl ?_)
       refine RL.opS trivial rfl (OpW.bin (k := .i64) (a := (mx 0 (IntKind.i64.wrap (s60 - 2)))) (b := 512) (v := .int .i64 (IntKind.i64.wrap ((mx 0 (IntKind.i64.wrap (s60 - 2))) * 512))) rfl rfl rfl ?_)
       obtain ⟨⟨h1, h2, h3⟩, h⟩ := h
       refine RL.opS trivial rfl (OpW.sliceStr (l := (IntKind.i64.wrap ((mx 0 (IntKind.i64.wrap (s60 - 2))) * 512))) (h := (s48.length : Int)) str_9 rfl ⟨_, rfl⟩ rfl h1 h2 h3 ?_)
       obtain ⟨⟨h1, h2, h3⟩, h⟩ := h
       refine RL.opS trivial rfl (OpW.sliceStr (l := 0) (h := 512) str_9 rfl rfl ⟨_, rfl⟩ h1 h2 h3 ?_)
       refine RL.opS trivial rfl (OpW.assign (v := str ((((s48.take (Int.toNat (s48.length : Int))).drop (Int.toNat (IntKind.i64.wrap ((mx 0 (IntKind.i64.wrap (s60 - 2))) * 512)))).take (Int.toNat 512)).drop (Int.toNat 0))) rfl ?_)
       refine RL.nil ?_
       refine jn_elim h ?_; clear h; intro k120 hk121 h
       refine CW.seqJ (A := List UInt8) (fun s98 ρ => ρ 14 = str s98 ∧ ρ 3 = .pointer (some ⟨b1, 0, none⟩) ∧ ρ 7 = str s48 ∧ ρ 10 = .pointer x54.1 ∧ ρ 12 = .pointer (some ⟨b58, 0, none⟩) ∧ ρ 13 = .int .i64 s60 ∧ ρ 71 = .int .i64 s60) k120 ?_ ?_
       ·rintro s98 ρ w99 ⟨e100, e101, e102, e103, e104, e105, e106⟩ h
        subst hk121
        refine CW.seq ?_
        refine CW.seq ?_
        refine CW.region ?_
        refine RL.opS trivial rfl (OpW.move (v := .pointer x54.1) e103 ?_)
        refine RL.opS trivial rfl (OpW.move (v := .int .i64 s60) e105 ?_)
        refine RL.opS trivial rfl (OpW.move (v := str s98) e100 ?_)
        refine RL.opS trivial rfl (OpW.s2bE str_9 bsl_39 rfl h (fun x107 w108 h => ?_))
        refine RL.opS trivial rfl (OpW.callR (al := [.pointer x54.1, .int .i64 s60, Sl.v x107]) Try.func33 fb_33 fn_33 rfl h (fun x109 w110 h => ?_))
        refine RL.opS trivial rfl (OpW.bin (k := .i64) (a := x109) (b := 0) (v := .bool (!decide (x109 = 0))) rfl rfl rfl ?_)
        refine RL.nil ?_
        obtain ⟨ha, hc⟩ := h
        refine CW.cond (b := (!decide (x109 = 0))) rfl (fun hb111 => ?_) (fun hb111 => ?_)
        ·have h := ha hb111; clear ha hc
         refine CW.seq ?_
         refine CW.region ?_
         refine RL.opS trivial rfl (OpW.assign (v := .bool false) rfl ?_)
         refine RL.nil ?_
         refine CW.ret ?_
         exact ret_intro (res1 rfl rfl) ⟨false, rfl, h⟩
        ·have h := hc hb111; clear ha hc
         refine CW.skip ?_
         refine CW.seq ?_
         refine CW.region ?_
         obtain ⟨x112, h1, h2, h⟩ := h
         refine RL.opS trivial rfl (OpW.loadA agg_49 e104 h1 h2 ?_)
         refine RL.opS trivial rfl (OpW.move (v := .int .i64 s60) e105 ?_)
         refine RL.opS trivial rfl (OpW.move (v := str s98) e100 ?_)
         refine RL.opS trivial rfl (OpW.callR (al := [aggv x112, .int .i64 s60, str s98]) Try.func42 fb_42 fn_42 rfl h (fun x113 w114 h => ?_))
         refine RL.opS trivial rfl (OpW.move (v := .tuple #[aggv x113.1, .int .i64 x113.2]) rfl ?_)
         refine RL.opS trivial rfl (OpW.extract (v := aggv x113.1) rfl rfl ?_)
         refine RL.opS trivial rfl (OpW.extract (v := .int .i64 x113.2) rfl rfl ?_)
         obtain ⟨hl_b115, ho_b115, h⟩ := h
         obtain ⟨b115, hb115_⟩ : ∃ b_, b_ = w114.heap.size := ⟨_, rfl⟩
         obtain ⟨w116, hw116_⟩ : ∃ w_, w_ = w114.alloc (.cells (List.toArray x113.1) 49) := ⟨_, rfl⟩
         have h := h b115 w116 hb115_ hw116_
         refine RL.opS trivial rfl (OpW.allocZ (b := b115) zero_49 hb115_ ?_)
         refine RL.opN trivial (OpW.storeF (zs := [Value.slice none 0 0, Value.slice none 0 0, Value.slice none 0 0, Value.int .i64 0, Value.bool false]) (cs := x113.1) size_49 rfl rfl hl_b115 (by decide) ho_b115 hb115_ hw116_ ?_)
         refine RL.opS trivial rfl (OpW.assign (v := .int .i64 x113.2) rfl ?_)
         refine RL.nil ?_
         refine CW.seq ?_
         refine CW.region ?_
         obtain ⟨x117, h1, h2, h⟩ := h
         refine RL.opS trivial rfl (OpW.loadA agg_49 rfl h1 h2 ?_)
         obtain ⟨g_, o_, e_, cur_, ha_, h1, h2, h3, h4, h⟩ := h
         obtain ⟨w118, hw118_⟩ : ∃ w_, w_ = w116.setRow g_ (cur_.toList.take o_ ++ x117 ++ cur_.toList.drop (o_ + List.length x117)).toArray := ⟨_, rfl⟩
         have h := h w118 hw118_
         refine RL.opN trivial (OpW.storeAE (cs := x117) size_49 e104 rfl ha_ h1 h2 h3 h4 hw118_ ?_)
         refine RL.nil ?_
         refine CW.seq ?_
         refine CW.region ?_
         refine RL.opS trivial rfl (OpW.move (v := .int .i64 x113.2) rfl ?_)
         refine RL.opS trivial rfl (OpW.bin (k := .i64) (a := x113.2) (b := 0) (v := .bool (!decide (x113.2 = 0))) rfl rfl rfl ?_)
         refine RL.nil ?_
         obtain ⟨ha, hc⟩ := h
         refine CW.cond (b := (!decide (x113.2 = 0))) rfl (fun hb119 => ?_) (fun hb119 => ?_)
         ·have h := ha hb119; clear ha hc
          refine CW.seq ?_
          refine CW.region ?_
          refine RL.opS trivial rfl (OpW.assign (v := .bool false) rfl ?_)
          refine RL.nil ?_
          refine CW.ret ?_
          exact ret_intro (res1 rfl rfl) ⟨false, rfl, h⟩
         ·have h := hc hb119; clear ha hc
          refine CW.skip ?_
          refine CW.region ?_
          refine RL.opS trivial rfl (OpW.bin (k := .i64) (a := s60) (b := 1) (v := .int .i64 (IntKind.i64.wrap (s60 + 1))) e106 rfl rfl ?_)
          refine RL.opS trivial rfl (OpW.move (v := .int .i64 (IntKind.i64.wrap (s60 + 1))) rfl ?_)
          refine RL.nil ?_
          exact ⟨(IntKind.i64.wrap (s60 + 1)), ⟨rfl, e101, e102, e103, e104⟩, h⟩
       ·clear hk121
        refine CW.seq ?_
        refine CW.region ?_
        refine RL.opS trivial rfl (OpW.move (v := .int .i64 s60) rfl ?_)
        refine RL.opS trivial rfl (OpW.bin (k := .i64) (a := s60) (b := 2) (v := .bool (decide (s60 < 2))) rfl rfl rfl ?_)
        refine RL.nil ?_
        obtain ⟨ha, hc⟩ := h
        refine CW.cond (b := (decide (s60 < 2))) rfl (fun hb70 => ?_) (fun hb70 => ?_)
        ·have h := ha hb70; clear ha hc
         refine CW.seq ?_
         obtain ⟨w71, hw71_⟩ : ∃ w_, w_ = w61.drew := ⟨_, rfl⟩
         have h := h w71 hw71_
         have hx72 : Ext w61 w71 := by rw [hw71_]; exact Ext.drew _
         refine CW.draws (m := 11) (listed := #[F,F,F,F,F,F,F,F,F,F,F]) mixed [0, 1, 2, 3, 4, 5, 6, 7, 10] (Ext w61) rfl rfl ?_
         rw [← hw71_]
         refine DL.takeP (listed' := #[T,F,F,F,F,F,F,F,F,F,F]) (v := .int .i64 s60) 0 rfl rfl (by kernel_rfl) rfl trivial rfl (fun w_ K_ h_ => OpW.move (v := .int .i64 s60) rfl h_) ?_
         obtain ⟨h2, h3, h⟩ := h
         obtain ⟨a73, h4⟩ : ∃ a, a = Addr.add ⟨b1, 0, none⟩ (Int.toNat s60 * 3) := ⟨_, rfl⟩
         have h := h a73 h4
         refine DL.takeP (listed' := #[T,T,F,F,F,F,F,F,F,F,F]) (v := .pointer (some a73)) 1 rfl rfl (by kernel_rfl) rfl trivial rfl (fun w_ K_ h_ => OpW.indexArrE (a' := a73) arr_81 e64 rfl h2 h3 h4 h_) ?_
         refine DL.takeP (listed' := #[T,T,T,F,F,F,F,F,F,F,F]) (v := .pointer (some (Addr.add a73 0))) 2 rfl rfl (by kernel_rfl) rfl trivial rfl (fun w_ K_ h_ => OpW.fieldAddr (off := 0) field_80_0 rfl h_) ?_
         obtain ⟨x75, h1, h⟩ := h
         refine DL.takeK (listed' := #[T,T,T,T,F,F,F,F,F,F,F]) (v := .int .u64 x75) 3 rfl rfl (by kernel_rfl) (by kernel_rfl) rfl trivial rfl hx72 (fun w_ hS_ K_ h_ => OpW.load1 (v := .int .u64 x75) one_25 rfl (hS_.cell h1) h_) ?_
         refine DL.takeP (listed' := #[T,T,T,T,T,F,F,F,F,F,F]) (v := .int .i64 s60) 4 rfl rfl (by kernel_rfl) rfl trivial rfl (fun w_ K_ h_ => OpW.move (v := .int .i64 s60) rfl h_) ?_
         obtain ⟨h2, h3, h⟩ := h
         obtain ⟨a76, h4⟩ : ∃ a, a = Addr.add ⟨b1, 0, none⟩ (Int.toNat s60 * 3) := ⟨_, rfl⟩
         have h := h a76 h4
         refine DL.takeP (listed' := #[T,T,T,T,T,T,F,F,F,F,F]) (v := .pointer (some a76)) 5 rfl rfl (by kernel_rfl) rfl trivial rfl (fun w_ K_ h_ => OpW.indexArrE (a' := a76) arr_81 e64 rfl h2 h3 h4 h_) ?_
         refine DL.takeP (listed' := #[T,T,T,T,T,T,T,F,F,F,F]) (v := .pointer (some (Addr.add a76 1))) 6 rfl rfl (by kernel_rfl) rfl trivial rfl (fun w_ K_ h_ => OpW.fieldAddr field_80_1 rfl h_) ?_
         obtain ⟨x78, h1, h⟩ := h
         refine DL.takeK (listed' := #[T,T,T,T,T,T,T,T,F,F,F]) (v := .int .u64 x78) 7 rfl rfl (by kernel_rfl) (by kernel_rfl) rfl trivial rfl hx72 (fun w_ hS_ K_ h_ => OpW.load1 (v := .int .u64 x78) one_25 rfl (hS_.cell h1) h_) ?_
         refine DL.execS (listed' := #[T,T,T,T,T,T,T,T,T,F,F]) 8 rfl (by kernel_rfl) rfl trivial rfl (OpW.callR (al := [.int .u64 x75, .int .u64 x78]) Try.func41 fb_41 fn_41 rfl h (fun x79 w80 h => ?_))
         refine ⟨(fun h_ => absurd h_ (by decide)), ?_⟩
         refine DL.execS (listed' := #[T,T,T,T,T,T,T,T,T,T,F]) 9 rfl (by kernel_rfl) rfl trivial rfl (OpW.s2bE str_9 bsl_39 rfl h (fun x81 w82 h => ?_))
         refine ⟨(fun h_ => absurd h_ (by decide)), ?_⟩
         refine DL.takeP (listed' := #[T,T,T,T,T,T,T,T,T,T,T]) (v := Sl.v x81) 10 rfl rfl (by kernel_rfl) rfl trivial rfl (fun w_ K_ h_ => OpW.assign (v := Sl.v x81) rfl h_) ?_
         refine DL.done (by kernel_rfl) ?_
         refine CW.seq ?_
         obtain ⟨w83, hw83_⟩ : ∃ w_, w_ = w82.drew := ⟨_, rfl⟩
         have h := h w83 hw83_
         have hx84 : Ext w82 w83 := by rw [hw83_]; exact Ext.drew _
         refine CW.draws (m := 17) (listed := #[F,F,F,F,F,F,F,F,F,F,F,F,F,F,F,F,F]) mixed [0, 1, 2, 3, 4, 5, 6, 7, 8, 9, 10, 11, 12, 13, 14, 15] (Ext w82) rfl rfl ?_
         rw [← hw83_]
         refine DL.takeP (listed' := #[T,F,F,F,F,F,F,F,F,F,F,F,F,F,F,F,F]) (v := Sl.v x81) 0 rfl rfl (by kernel_rfl) rfl trivial rfl (fun w_ K_ h_ => OpW.move (v := Sl.v x81) rfl h_) ?_
         refine DL.takeP (listed' := #[T,T,F,F,F,F,F,F,F,F,F,F,F,F,F,F,F]) (v := .int .i64 s60) 1 rfl rfl (by kernel_rfl) rfl trivial rfl (fun w_ K_ h_ => OpW.move (v := .int .i64 s60) rfl h_) ?_
         obtain ⟨h2, h3, h⟩ := h
         obtain ⟨a85, h4⟩ : ∃ a, a = Addr.add ⟨b1, 0, none⟩ (Int.toNat s60 * 3) := ⟨_, rfl⟩
         have h := h a85 h4
         refine DL.takeP (listed' := #[T,T,T,F,F,F,F,F,F,F,F,F,F,F,F,F,F]) (v := .pointer (some a85)) 2 rfl rfl (by kernel_rfl) rfl trivial rfl (fun w_ K_ h_ => OpW.indexArrE (a' := a85) arr_81 e64 rfl h2 h3 h4 h_) ?_
         refine DL.takeP (listed' := #[T,T,T,T,F,F,F,F,F,F,F,F,F,F,F,F,F]) (v := .pointer (some (Addr.add a85 0))) 3 rfl rfl (by kernel_rfl) rfl trivial rfl (fun w_ K_ h_ => OpW.fieldAddr (off := 0) field_80_0 rfl h_) ?_
         obtain ⟨x87, h1, h⟩ := h
         refine DL.takeK (listed' := #[T,T,T,T,T,F,F,F,F,F,F,F,F,F,F,F,F]) (v := .int .u64 x87) 4 rfl rfl (by kernel_rfl) (by kernel_rfl) rfl trivial rfl hx84 (fun w_ hS_ K_ h_ => OpW.load1 (v := .int .u64 x87) one_25 rfl (hS_.cell h1) h_) ?_
         refine DL.takeP (listed' := #[T,T,T,T,T,T,F,F,F,F,F,F,F,F,F,F,F]) (v := .int .u64 (Int.tmod x87 24)) 5 rfl rfl (by kernel_rfl) rfl trivial rfl (fun w_ K_ h_ => OpW.quo (a := x87) (b := 24) (v := .int .u64 (Int.tmod x87 24)) rfl rfl (by decide) rfl h_) ?_
         refine DL.takeP (listed' := #[T,T,T,T,T,T,T,F,F,F,F,F,F,F,F,F,F]) (v := .int .i64 (IntKind.i64.wrap (Int.tmod x87 24))) 6 rfl rfl (by kernel_rfl) rfl trivial rfl (fun w_ K_ h_ => OpW.convInt (a := (Int.tmod x87 24)) int_25 int_3 rfl h_) ?_
         refine DL.takeP (listed' := #[T,T,T,T,T,T,T,T,F,F,F,F,F,F,F,F,F]) (v := .int .i64 (IntKind.i64.wrap (24 + (IntKind.i64.wrap (Int.tmod x87 24))))) 7 rfl rfl (by kernel_rfl) rfl trivial rfl (fun w_ K_ h_ => OpW.bin (k := .i64) (a := 24) (b := (IntKind.i64.wrap (Int.tmod x87 24))) (v := .int .i64 (IntKind.i64.wrap (24 + (IntKind.i64.wrap (Int.tmod x87 24))))) rfl rfl rfl h_) ?_
         obtain ⟨a88_, a88, h1, h2, h3, h4, h⟩ := h
         refine DL.takeP (listed' := #[T,T,T,T,T,T,T,T,T,F,F,F,F,F,F,F,F]) (v := .pointer (some a88)) 8 rfl rfl (by kernel_rfl) rfl trivial rfl (fun w_ K_ h_ => OpW.indexE (a' := a88) slice_39 rfl rfl h1 h2 h3 h4 h_) ?_
         obtain ⟨x90, h1, h⟩ := h
         refine DL.takeK (listed' := #[T,T,T,T,T,T,T,T,T,T,F,F,F,F,F,F,F]) (v := .int .u8 x90) 9 rfl rfl (by kernel_rfl) (by kernel_rfl) rfl trivial rfl hx84 (fun w_ hS_ K_ h_ => OpW.load1 (v := .int .u8 x90) one_5 rfl (hS_.cell h1) h_) ?_
         refine DL.takeP (listed' := #[T,T,T,T,T,T,T,T,T,T,T,F,F,F,F,F,F]) (v := .int .i64 s60) 10 rfl rfl (by kernel_rfl) rfl trivial rfl (fun w_ K_ h_ => OpW.move (v := .int .i64 s60) rfl h_) ?_
         obtain ⟨h2, h3, h⟩ := h
         obtain ⟨a91, h4⟩ : ∃ a, a = Addr.add ⟨b1, 0, none⟩ (Int.toNat s60 * 3) := ⟨_, rfl⟩
         have h := h a91 h4
         refine DL.takeP (listed' := #[T,T,T,T,T,T,T,T,T,T,T,T,F,F,F,F,F]) (v := .pointer (some a91)) 11 rfl rfl (by kernel_rfl) rfl trivial rfl (fun w_ K_ h_ => OpW.indexArrE (a' := a91) arr_81 e64 rfl h2 h3 h4 h_) ?_
         refine DL.takeP (listed' := #[T,T,T,T,T,T,T,T,T,T,T,T,T,F,F,F,F]) (v := .pointer (some (Addr.add a91 2))) 12 rfl rfl (by kernel_rfl) rfl trivial rfl (fun w_ K_ h_ => OpW.fieldAddr field_80_2 rfl h_) ?_
         obtain ⟨x93, h1, h⟩ := h
         refine DL.takeK (listed' := #[T,T,T,T,T,T,T,T,T,T,T,T,T,T,F,F,F]) (v := .int .u8 x93) 13 rfl rfl (by kernel_rfl) (by kernel_rfl) rfl trivial rfl hx84 (fun w_ hS_ K_ h_ => OpW.load1 (v := .int .u8 x93) one_5 rfl (hS_.cell h1) h_) ?_
         refine DL.takeP (listed' := #[T,T,T,T,T,T,T,T,T,T,T,T,T,T,T,F,F]) (v := .int .u8 (xorI .u8 x90 x93)) 14 rfl rfl (by kernel_rfl) rfl trivial rfl (fun w_ K_ h_ => OpW.bin (k := .u8) (a := x90) (b := x93) (v := .int .u8 (xorI .u8 x90 x93)) rfl rfl rfl h_) ?_
         obtain ⟨a94_, a94, h1, h2, h3, h4, h⟩ := h
         refine DL.takeP (listed' := #[T,T,T,T,T,T,T,T,T,T,T,T,T,T,T,T,F]) (v := .pointer (some a94)) 15 rfl rfl (by kernel_rfl) rfl trivial rfl (fun w_ K_ h_ => OpW.indexE (a' := a94) slice_39 rfl rfl h1 h2 h3 h4 h_) ?_
         obtain ⟨u_, h1, h2, h⟩ := h
         obtain ⟨w96, hw96_⟩ : ∃ w_, w_ = w83.setCell a94 (.int .u8 (xorI .u8 x90 x93)) := ⟨_, rfl⟩
         have h := h w96 hw96_
         refine DL.execN (listed' := #[T,T,T,T,T,T,T,T,T,T,T,T,T,T,T,T,T]) 16 rfl (by kernel_rfl) rfl trivial (OpW.store1E (v := .int .u8 (xorI .u8 x90 x93)) size_5 rfl rfl rfl h1 h2 hw96_ ?_)
         refine ⟨(fun h_ => absurd h_ (by decide)), ?_⟩
         refine DL.done (by kernel_rfl) ?_
         refine CW.region ?_
         refine RL.opS trivial rfl (OpW.move (v := Sl.v x81) rfl ?_)
         obtain ⟨x97, h1, h2, h⟩ := h
         refine RL.opS trivial rfl (OpW.b2s bsl_39 str_9 rfl h1 h2 ?_)
         refine RL.opS trivial rfl (OpW.assign (v := str x97) rfl ?_)
         refine RL.nil ?_
         exact ⟨x97, ⟨rfl, e64, e65, e66, e67, rfl, e63⟩, h⟩
        ·have h := hc hb70; clear ha hc
         refine CW.skip ?_
         exact ⟨((((s48.take (Int.toNat (s48.length : Int))).drop (Int.toNat (IntKind.i64.wrap ((mx 0 (IntKind.i64.wrap (s60 - 2))) * 512)))).take (Int.toNat 512)).drop (Int.toNat 0)), ⟨rfl, e64, e65, e66, e67, rfl, e63⟩, h⟩
      ·have h := hc hb68; clear ha hc
       refine CW.exit ?_
       refine CW.seq ?_
       refine CW.region ?_
       refine RL.opS trivial rfl (OpW.move (v := .pointer x54.1) e66 ?_)
       obtain ⟨x122, h1, h2, h⟩ := h
       refine RL.opS trivial rfl (OpW.loadA agg_49 e67 h1 h2 ?_)
       obtain ⟨hl0_, h⟩ := h
       refine RL.opS trivial rfl (OpW.buildL (vs := [(0, aggv x122)]) (cs := (x122 ++ ([Value.int .i64 0] : List Value) ++ ([Value.int .i64 0] : List Value) ++ ([Value.int .u64 0] : List Value) ++ ([str []] : List Value) ++ ([Value.int .i64 0] : List Value) ++ ([Value.bool false] : List Value))) (by rfl) (fun w_ => (fun y0_ hy0_ => by obtain ⟨c0_0, c0_1, c0_2, c0_3, c0_4, rfl⟩ := list5 hy0_; kernel_rfl : ∀ (y0_ : List Value), y0_.length = 5 → (Instr.build 52 ([(0, aggv y0_)]).toArray).run Try.prog w_ = .ok (aggv (y0_ ++ ([Value.int .i64 0] : List Value) ++ ([Value.int .i64 0] : List Value) ++ ([Value.int .u64 0] : List Value) ++ ([str []] : List Value) ++ ([Value.int .i64 0] : List Value) ++ ([Value.bool false] : List Value))) w_) x122 hl0_) ?_)
       obtain ⟨hl1_, h⟩ := h
       refine RL.opS trivial rfl (OpW.buildL (vs := [(0, .pointer x54.1), (2, aggv (x122 ++ ([Value.int .i64 0] : List Value) ++ ([Value.int .i64 0] : List Value) ++ ([Value.int .u64 0] : List Value) ++ ([str []] : List Value) ++ ([Value.int .i64 0] : List Value) ++ ([Value.bool false] : List Value)))]) (cs := (([.pointer x54.1] : List Value) ++ ([Value.pointer none] : List Value) ++ (x122 ++ ([Value.int .i64 0] : List Value) ++ ([Value.int .i64 0] : List Value) ++ ([Value.int .u64 0] : List Value) ++ ([str []] : List Value) ++ ([Value.int .i64 0] : List Value) ++ ([Value.bool false] : List Value)))) (by rfl) (fun w_ => (fun y1_ hy1_ => by obtain ⟨c1_0, c1_1, c1_2, c1_3, c1_4, c1_5, c1_6, c1_7, c1_8, c1_9, c1_10, rfl⟩ := list11 hy1_; kernel_rfl : ∀ (y1_ : List Value), y1_.length = 11 → (Instr.build 54 ([(0, .pointer x54.1), (2, aggv y1_)]).toArray).run Try.prog w_ = .ok (aggv (([.pointer x54.1] : List Value) ++ ([Value.pointer none] : List Value) ++ y1_)) w_) (x122 ++ ([Value.int .i64 0] : List Value) ++ ([Value.int .i64 0] : List Value) ++ ([Value.int .u64 0] : List Value) ++ ([str []] : List Value) ++ ([Value.int .i64 0] : List Value) ++ ([Value.bool false] : List Value)) hl1_) ?_)
       obtain ⟨b123, hb123_⟩ : ∃ b_, b_ = w61.heap.size := ⟨_, rfl⟩
       obtain ⟨w124, hw124_⟩ : ∃ w_, w_ = w61.alloc (.cells (List.toArray (([.pointer x54.1] : List Value) ++ ([Value.pointer none] : List Value) ++ (x122 ++ ([Value.int .i64 0] : List Value) ++ ([Value.int .i64 0] : List Value) ++ ([Value.int .u64 0] : List Value) ++ ([str []] : List Value) ++ ([Value.int .i64 0] : List Value) ++ ([Value.bool false] : List Value)))) 54) := ⟨_, rfl⟩
       have h := h b123 w124 hb123_ hw124_
       refine RL.opS trivial rfl (OpW.boxE (cs := (([.pointer x54.1] : List Value) ++ ([Value.pointer none] : List Value) ++ (x122 ++ ([Value.int .i64 0] : List Value) ++ ([Value.int .i64 0] : List Value) ++ ([Value.int .u64 0] : List Value) ++ ([str []] : List Value) ++ ([Value.int .i64 0] : List Value) ++ ([Value.bool false] : List Value)))) (rfl) hb123_ hw124_ ?_)
       refine RL.opS trivial rfl (OpW.assign (v := .pointer (some ⟨b123, 0, none⟩)) rfl ?_)
       refine RL.nil ?_
       refine CW.seq ?_
       refine CW.region ?_
       refine RL.opS trivial rfl (OpW.move (v := .pointer (some ⟨b123, 0, none⟩)) rfl ?_)
       refine RL.opS trivial rfl (OpW.callR (al := [.pointer (some ⟨b123, 0, none⟩), .int .i64 5]) Try.func25 fb_25 fn_25 rfl h (fun x125 w126 h => ?_))
       refine RL.opS trivial rfl (OpW.move (v := .bool x125) rfl ?_)
       refine jn_elim h ?_; clear h; intro k134 hk135 h
       refine RL.joinAt (A := Bool) 3 (fun s131 ρ => ρ 138 = .bool s131) k134 ?_ ?_
       ·rintro s131 ρ w132 e133 h
        subst hk135
        dsimp only [List.drop]
        refine RL.opS trivial rfl (OpW.assign (v := .bool s131) e133 ?_)
        refine RL.nil ?_
        refine CW.ret ?_
        exact ret_intro (res1 rfl rfl) ⟨s131, rfl, h⟩
       ·clear hk135
        dsimp only [List.take]
        obtain ⟨ha, hc⟩ := h
        rcases Bool.eq_false_or_eq_true x125 with hb127 | hb127
        ·have h := ha hb127; clear ha hc
         refine RL.opS (wanted_of rfl rfl hb127) rfl (OpW.move (v := .pointer (some ⟨b123, 0, none⟩)) rfl ?_)
         refine RL.opS (wanted_of rfl rfl hb127) rfl (OpW.callR (al := [.pointer (some ⟨b123, 0, none⟩)]) Try.func43 fb_43 fn_43 rfl h (fun x129 w130 h => ?_))
         refine RL.opS trivial rfl (OpW.pick (b := true) (v := .bool x129) (congrArg Value.bool hb127) rfl ?_)
         refine RL.nil ?_
         exact ⟨x129, rfl, h⟩
        ·have h := hc hb127; clear ha hc
         refine RL.skipS (notWanted_of rfl rfl hb127) rfl ?_
         refine RL.skipS (notWanted_of rfl rfl hb127) rfl ?_
         refine RL.opS trivial rfl (OpW.pick (b := false) (v := .bool false) (congrArg Value.bool hb127) rfl ?_)
         refine RL.nil ?_
         exact ⟨false, rfl, h⟩
  ·clear hk143
   dsimp only [List.take]
   obtain ⟨ha, hc⟩ := h
   rcases Bool.eq_false_or_eq_true s7 with hb13 | hb13
   ·have h := ha hb13; clear ha hc
    refine RL.skipS (notWanted_of rfl rfl hb13) rfl ?_
    refine RL.skipS (notWanted_of rfl rfl hb13) rfl ?_
    refine RL.skipS (notWanted_of rfl rfl hb13) rfl ?_
    refine RL.skipS (notWanted_of rfl rfl hb13) rfl ?_
    refine RL.skipS (notWanted_of rfl rfl hb13) rfl ?_
    refine RL.opS trivial rfl (OpW.pick (b := true) (v := .bool true) (congrArg Value.bool hb13) rfl ?_)
    refine RL.nil ?_
    exact ⟨true, ⟨rfl, e10, e11, e12⟩, h⟩
   ·have h := hc hb13; clear ha hc
    refine RL.opS (wanted_of rfl rfl hb13) rfl (OpW.move (v := Sl.v p2) e11 ?_)
    refine RL.opS (wanted_of rfl rfl hb13) rfl (OpW.buildL (vs := [(1, Sl.v p2)]) (cs := [Value.int .i64 0, Sl.v p2, Value.int .i64 0, Value.int .u64 0, Value.int .i64 0]) (by rfl) (fun _ => by kernel_rfl) ?_)
    obtain ⟨hl_, ho_, h⟩ := h
    obtain ⟨b15, hb15_⟩ : ∃ b_, b_ = w8.heap.size := ⟨_, rfl⟩
    obtain ⟨w16, hw16_⟩ : ∃ w_, w_ = w8.alloc (.cells (List.toArray [Value.int .i64 0, Sl.v p2, Value.int .i64 0, Value.int .u64 0, Value.int .i64 0]) 29) := ⟨_, rfl⟩
    have h := h b15 w16 hb15_ hw16_
    refine RL.opS (wanted_of rfl rfl hb13) rfl (OpW.buildSliceE (vs := [(0, aggv [Value.int .i64 0, Sl.v p2, Value.int .i64 0, Value.int .u64 0, Value.int .i64 0])]) (cs := [Value.int .i64 0, Sl.v p2, Value.int .i64 0, Value.int .u64 0, Value.int .i64 0]) (by rfl) (fillOne mkz_30 (by simp) (by decide) (by decide) hl_) hb15_ hw16_ ?_)
    refine RL.opS (wanted_of rfl rfl hb13) rfl (OpW.callR (al := [.int .i64 3, Sl.v ⟨some ⟨b15, 0, none⟩, 1, 1⟩]) Try.func14 fb_14 fn_14 rfl h (fun x17 w18 h => ?_))
    refine RL.opS (wanted_of rfl rfl hb13) rfl (OpW.not rfl ?_)
    refine RL.opS trivial rfl (OpW.pick (b := false) (v := .bool (!x17)) (congrArg Value.bool hb13) rfl ?_)
    refine RL.nil ?_
    exact ⟨(!x17), ⟨rfl, e10, e11, e12⟩, h⟩
 ·clear hk145
  dsimp only [List.take]
  obtain ⟨ha, hc⟩ := h
  rcases Bool.eq_false_or_eq_true (!x3) with hb5 | hb5
  ·have h := ha hb5; clear ha hc
   refine RL.skipS (notWanted_of rfl rfl hb5) rfl ?_
   refine RL.skipS (notWanted_of rfl rfl hb5) rfl ?_
   refine RL.skipS (notWanted_of rfl rfl hb5) rfl ?_
   refine RL.opS trivial rfl (OpW.pick (b := true) (v := .bool true) (congrArg Value.bool hb5) rfl ?_)
   refine RL.nil ?_
   exact ⟨true, ⟨rfl, rfl, rfl, rfl⟩, h⟩
  ·have h := hc hb5; clear ha hc
   refine RL.opS (wanted_of rfl rfl hb5) rfl (OpW.move (v := Sl.v p1) rfl ?_)
   refine RL.opS (wanted_of rfl rfl hb5) rfl (OpW.len (s := p1) slice_39 rfl ?_)
   refine RL.opS (wanted_of rfl rfl hb5) rfl (OpW.bin (k := .i64) (a := (p1.len : Int)) (b := 1500) (v := .bool (decide (1500 < (p1.len : Int)))) rfl rfl rfl ?_)
   refine RL.opS trivial rfl (OpW.pick (b := false) (v := .bool (decide (1500 < (p1.len : Int)))) (congrArg Value.bool hb5) rfl ?_)
   refine RL.nil ?_
   exact ⟨(decide (1500 < (p1.len : Int))), ⟨rfl, rfl, rfl, rfl⟩, h⟩
end Go.Proofs.Ytagkcbbbdlmcjaa
end
section
/- WalOpens: any two heads, any bytes behind them: which records are found, or that none can be, and which head counts: the law answers true and leaves all that was there. -/
namespace Go.Proofs.Ytagkcbbbdlmcjaa
open Go.Lift Go.Lift.Disk Go.Lift.Crc Go.Lift.Wal Go.RowKit
abbrev Hd := Nat × Nat × UInt8
def hdC (h : Hd) : List Value := [.int .u64 (h.1 : Int), .int .u64 (h.2.1 : Int), .int .u8 (h.2.2.toNat : Int)]
def HdOk (h : Hd) : Prop := h.1 < 18446744073709551616 ∧ h.2.1 < 18446744073709551616
section
open Go.ChangeShapes Go.WideShapes Go.ChangeAt Go.Deep
variable {H : Type} {enc : TypeId × Value → H} {w : World} {base : Nat} {held : Bool}
theorem okWide_array {P : Program} {r : Reach} {b0 n : Nat} {t e : TypeId} {v : Value} (ht : P.underlying t = some (.array n e)) (h : Value.okWide P w r b0 t v) : ∃ cs, v = .agg cs ∧ cs.size = P.cellsOf t := by
 simp only [Value.okWide, ht] at h
 obtain ⟨cs, h1, h2, _⟩ := h
 exact ⟨cs, h1, h2⟩
theorem nat_of_u64 {n : Int} (h : (Lit.int .u64 n).wf = true) : ∃ m : Nat, n = (m : Int) ∧ m < 18446744073709551616 := by
 have := int_wfu64 h
 exact ⟨n.toNat, by omega, by omega⟩
set_option maxRecDepth 100000 in
theorem open_hd {fuel : Nat} {cs : List Value} {x : DataW H × List MemPlace} (hl : cs.length = 3) (h : DataW.trod enc Try.prog w base (fun _ => true) held fuel 80 cs = some x) : ∃ d : Hd, cs = hdC d ∧ HdOk d := by
 obtain ⟨xs, n, _, _, _, hxl, hf⟩ := DataW.trod_struct Try.underlying80 h
 match cs, hl with
 | [c0, c1, c2], _ =>
  have f0 := hf 0 _ rfl
  have f1 := hf 1 _ rfl
  have f2 := hf 2 _ rfl
  rw [List.getElem?_eq_getElem (by rw [hxl]; decide)] at f0 f1 f2
  obtain ⟨n0, e0, _, w0⟩ := DataW.trod_int Try.underlying25 f0
  obtain ⟨n1, e1, _, w1⟩ := DataW.trod_int Try.underlying25 f1
  obtain ⟨n2, e2, _, w2⟩ := DataW.trod_int Try.underlying5 f2
  have k25 : Try.prog.cellsOf 25 = 1 := by kernel_rfl
  have k5 : Try.prog.cellsOf 5 = 1 := by kernel_rfl
  have g0 : ([c0, c1, c2].drop 0).take (Try.prog.cellsOf 25) = _ := e0; clear e0
  have g1 : ([c0, c1, c2].drop 1).take (Try.prog.cellsOf 25) = _ := e1; clear e1
  have g2 : ([c0, c1, c2].drop 2).take (Try.prog.cellsOf 5) = _ := e2; clear e2
  rw [k25] at g0 g1
  rw [k5] at g2
  simp only [List.drop_zero, List.drop_succ_cons, List.take_succ_cons, List.take_zero, List.cons.injEq, and_true] at g0 g1 g2
  subst g0; subst g1; subst g2
  obtain ⟨m0, rfl, h0⟩ := nat_of_u64 w0
  obtain ⟨m1, rfl, h1⟩ := nat_of_u64 w1
  obtain ⟨c, rfl⟩ := int_wfu8 w2
  exact ⟨(m0, m1, c), rfl, h0, h1⟩
set_option maxRecDepth 100000 in
theorem open_81 {r : Reach} {b0 : Nat} {v : Value} {d : DataW H} {ps : List MemPlace} (hval : Value.okWide Try.prog w r b0 81 v) (h : DataW.Trod enc Try.prog w base (fun _ => true) held 81 v d ps) :
  ∃ h : Hd × Hd, v = aggv (hdC h.1 ++ hdC h.2) ∧ HdOk h.1 ∧ HdOk h.2 := by
 obtain ⟨cs, rfl, hsz⟩ := okWide_array Try.underlying81 hval
 obtain ⟨fuel, hf⟩ := h
 have c81 : Try.prog.cellsOf 81 = 6 := by kernel_rfl
 have c80 : Try.prog.cellsOf 80 = 3 := by kernel_rfl
 have hf' : DataW.trod enc Try.prog w base (fun _ => true) held fuel 81 cs.toList = some (d, ps) := hf
 obtain ⟨xs, m, _, _, hlen, hxl, hg⟩ := DataW.trod_array Try.underlying81 hf'
 rw [c81] at hlen
 rw [c80] at hg
 have g0 := hg 0 (by decide)
 have g1 := hg 1 (by decide)
 rw [List.getElem?_eq_getElem (by rw [hxl]; decide)] at g0 g1
 obtain ⟨h0, e0, k0⟩ := open_hd (by rw [List.length_take, List.length_drop, hlen]; decide) g0
 obtain ⟨h1, e1, k1⟩ := open_hd (by rw [List.length_take, List.length_drop, hlen]; decide) g1
 refine ⟨(h0, h1), ?_, k0, k1⟩
 have : cs.toList = hdC h0 ++ hdC h1 := by
  rw [← e0, ← e1, Nat.zero_mul, List.drop_zero, Nat.one_mul]
  have : (cs.toList.drop 3).take 3 = cs.toList.drop 3 := List.take_of_length_le (by rw [List.length_drop, hlen]; decide)
  rw [this, List.take_append_drop]
 show Value.agg cs = Value.agg _
 rw [← this]
end
/-- a row with a mark -/
def BlkN (w : World) (g : Nat) (e : TypeId) (fr : Nat × Nat) (cs : List Value) : Prop := w.heap[g]? = some (.cells cs.toArray e fr)
theorem BlkN.setCell {w : World} {g o : Nat} {e : TypeId} {fr : Nat × Nat} {cs : List Value} (h : BlkN w g e fr cs) (v : Value) : BlkN (w.setCell ⟨g, o, none⟩ v) g e fr (cs.set o v) := by
 have h' : w.heap[g]? = some (.cells cs.toArray e fr) := h
 unfold BlkN World.setCell
 simp only [Array.getElem?_modify, if_true, h', Option.map_some, Option.isSome_none, Bool.false_eq_true, if_false]
 simp
theorem BlkN.cell {w : World} {g o : Nat} {e : TypeId} {fr : Nat × Nat} {cs : List Value} {v : Value} (h : BlkN w g e fr cs) (hv : cs[o]? = some v) : w.cell? ⟨g, o, none⟩ = some v := by
 rw [cell_of_row w g o cs.toArray e fr h]; simpa using hv
theorem BlkN.unfrozen {w : World} {g o : Nat} {e : TypeId} {n m : Nat} {cs : List Value} (h : BlkN w g e (n, m) cs) (ho : o < n) : w.frozen? ⟨g, o, none⟩ = false := by
 have h' : w.heap[g]? = some (.cells cs.toArray e (n, m)) := h
 unfold World.frozen?
 simp [h']
 omega
theorem xor8 (a b : Int) : ∃ c : UInt8, xorI .u8 a b = (c.toNat : Int) := by
 refine ⟨UInt8.ofNat (BitVec.ofInt 8 a ^^^ BitVec.ofInt 8 b).toNat, ?_⟩
 exact u8n _
theorem u8s_set (bs : List UInt8) (o : Nat) (c : UInt8) : (u8s bs).set o (.int .u8 (c.toNat : Int)) = u8s (bs.set o c) := by simp [u8s, List.map_set]
theorem hd_cells {w : World} {b1 : Nat} {h0 h1 : Hd} (hB : Blk w b1 81 (hdC h0 ++ hdC h1)) {i : Nat} (hi : i < 2) :
  ∃ d : Hd, (d = h0 ∨ d = h1) ∧ w.cell? ⟨b1, i * 3, none⟩ = some (.int .u64 (d.1 : Int)) ∧ w.cell? ⟨b1, i * 3 + 1, none⟩ = some (.int .u64 (d.2.1 : Int)) ∧ w.cell? ⟨b1, i * 3 + 2, none⟩ = some (.int .u8 (d.2.2.toNat : Int)) := by
 rcases Nat.eq_zero_or_pos i with rfl | h
 ·exact ⟨h0, .inl rfl, hB.cell rfl, hB.cell rfl, hB.cell rfl⟩
 ·obtain rfl : i = 1 := by omega
  exact ⟨h1, .inr rfl, hB.cell rfl, hB.cell rfl, hB.cell rfl⟩
theorem walOpens_ok (w : World) (hh : Hd × Hd) (hok : HdOk hh.1 ∧ HdOk hh.2) (p1 : Sl) (l1 : List UInt8) (h1 : Bytes w p1 l1) (hlc1 : p1.len ≤ p1.cap) (hcm1 : p1.cap ≤ maxLen)
  (p2 : Sl) (l2 : List (List UInt8)) (h2 : Parts w p2 l2) (hlc2 : p2.len ≤ p2.cap) (hcm2 : p2.cap ≤ maxLen) (hb2 : ∀ b ∈ l2, b.length ≤ maxLen) :
  Calls Try.prog 10 #[aggv (hdC hh.1 ++ hdC hh.2), p1.v, p2.v] w (Ret r10 fun x w' => x = true ∧ Ext w w') := by
 apply s10_calls
 have hp1l := h1.1
 intro b1 w2 hb1 hw2
 have hx2 : Ext w w2 := Ext.new hw2
 have hB2 : Blk w2 b1 81 (hdC hh.1 ++ hdC hh.2) := Blk.new hb1 hw2
 refine cR_of (lives4_ok w2) ?_
 rintro x3 w4 ⟨rfl, hx4⟩
 refine jn_of fun k1 hk1 => ⟨fun h => absurd h (by decide), fun _ => ?_⟩
 have hx4' := hx2.trans hx4
 rw [hk1]
 refine jn_of fun k2 hk2 => ?_
 have bad : ∀ v, Ext w v → k2 true v := by
  intro v hv
  rw [hk2]
  exact ⟨fun _ => cR_of (lives4_ok v) fun x w' ⟨hx, hw⟩ => ⟨hx, hv.trans hw⟩, fun h => absurd h (by simp)⟩
 refine ⟨fun _ => bad _ hx4', fun h15 => ?_⟩
 have h15 := of_decide_eq_false h15
 refine ⟨rfl, opj_one ⟨0, p2, l2, (0, 0, 0)⟩, fun b15 w16 hb15 hw16 => ?_⟩
 have hx16 : Ext w4 w16 := Ext.new hw16
 have hops : OpsJ w16 ⟨some ⟨b15, 0, none⟩, 1, 1⟩ [⟨0, p2, l2, (0, 0, 0)⟩] := by
  refine ⟨rfl, At.new hb15 hw16, fun o ho => ?_⟩
  rw [List.mem_singleton.1 ho]
  exact ⟨h2.ext (hx4'.trans hx16), by show (0 : Int) ≤ 0 ∧ (0 : Int) < 18446744073709551616; decide⟩
 refine cR_of (fits4_ok w16 3 _ _ hops) ?_
 rintro x17 w20 ⟨hfit, hx20⟩
 have hxw20 := (hx4'.trans hx16).trans hx20
 cases x17 with
 | false => exact bad _ hxw20
 | true =>
 obtain ⟨_, _, _, hall⟩ := hfit rfl
 obtain ⟨hl6, hs3⟩ := hall _ (List.mem_singleton.2 rfl)
 simp only at hl6 hs3
 show k2 false w20
 rw [hk2]
 refine ⟨fun h => absurd h (by simp), fun _ => ?_⟩
 have hB20 := ((hB2.ext hx4).ext hx16).ext hx20
 have hp2l := h2.len
 refine ⟨fun st w' => ∃ k : Nat, k ≤ l2.length ∧ st.2 = (k : Int) ∧ st.1.length ≤ k * 3100 ∧ Ext w20 w', fun st _ => l2.length - st.2.toNat, ⟨0, Nat.zero_le _, rfl, Nat.le_refl _, Ext.refl _⟩, ?_⟩
 rintro ⟨s, i⟩ w29 ⟨k, hk, rfl, hsl, hx29⟩
 simp only at hsl ⊢
 have hxw29 := hxw20.trans hx29
 refine ⟨fun hlt => ?_, fun hge => ?_⟩
 ·have hkl : k < l2.length := by have := of_decide_eq_true hlt; omega
  obtain ⟨a, sl, ha, hc, hb⟩ := (h2.ext hxw29).get hkl
  have hsk := hs3 _ (List.getElem_mem hkl)
  refine ⟨a, _, ha, by omega, by omega, rfl, sl, by rw [Int.toNat_natCast, Nat.mul_one]; exact hc, _, hb.1, hb.2, ?_⟩
  refine cR_of (rframe_ok w29 l2[k] (by omega)) ?_
  rintro x42 w43 ⟨rfl, hx43⟩
  have hfl := frameB_len l2[k]
  have hnl := (numB_len l2[k].length (by omega)).2
  refine ⟨by omega, ?_⟩
  rw [w64_eq (by omega) (by omega)]
  exact ⟨⟨k + 1, by omega, by omega, by rw [List.length_append]; omega, hx29.trans hx43⟩, by omega⟩
 ·have hsl : s.length ≤ 18600 := by omega
  intro w44 hw44
  have hx44 : Ext w29 w44 := by subst hw44; exact Ext.drew _
  have ehalf : IntKind.i64.wrap (Int.tdiv (p1.len : Int) 2) = ((p1.len / 2 : Nat) : Int) := by
   rw [Int.tdiv_eq_ediv_of_nonneg (by omega), w64_eq (by omega) (by omega)]; omega
  rw [ehalf]
  have h1' := h1.ext hxw29
  have hc0 := h1'.cut (l := 0) (e := p1.len / 2) (m := p1.cap) (Nat.zero_le _) (by omega) (by omega)
  have hc1 := h1'.cut (l := p1.len / 2) (e := p1.len) (m := p1.cap) (by omega) hlc1 (by omega)
  have hcl0 : ((l1.take (p1.len / 2)).drop 0).length ≤ 1500 := by simp; omega
  have hcl1 : ((l1.take p1.len).drop (p1.len / 2)).length ≤ 1500 := by simp; omega
  refine ⟨⟨by omega, by omega, by omega⟩, _, hc0.1, hc0.2, ?_⟩
  generalize (l1.take (p1.len / 2)).drop 0 = x46 at hcl0
  refine ⟨by omega, ⟨by omega, by omega⟩, _, hc1.1, hc1.2, ?_⟩
  generalize (l1.take p1.len).drop (p1.len / 2) = x47 at hcl1
  refine ⟨by rw [List.length_append]; omega, ?_⟩
  have hx44' := hx29.trans hx44
  refine ⟨fun st w' => st.length ≤ 30000 ∧ w44 = w', fun st _ => 1536 - st.length, ⟨by simp only [List.length_append]; omega, rfl⟩, ?_⟩
  rintro S w49 ⟨hS, rfl⟩
  refine ⟨fun hlt => ?_, fun hge => ?_⟩
  ·have hlt := of_decide_eq_true hlt
   refine ⟨by simp only [List.length_singleton]; omega, ⟨by rw [List.length_append]; simp only [List.length_singleton]; omega, rfl⟩, by simp only [List.length_append, List.length_singleton]; omega⟩
  ·have hS2 : 1536 ≤ S.length := by have := of_decide_eq_false hge; omega
   have hxw44 := hxw20.trans hx44'
   refine cR_of (new_ok w44 5 (by decide) (by decide)) ?_
   rintro x54 w55 ⟨pd, bb, rfl, h55, hx55⟩
   obtain ⟨hpd, hbb, hpdl, hbbl⟩ := h55.lt
   have hpd : w44.heap.size ≤ pd := hpd
   have hbb : w44.heap.size ≤ bb := hbb
   refine cR_of (rnew_ok (B := fun k => ¬ Foot pd bb k) w55 (fun k hk => by rintro (e | e) <;> omega) 5 (by decide)) ?_
   rintro x56 w57 ⟨hA57, hx57⟩
   refine ⟨hA57.len, hA57.one, fun b58 w59 hb58 hw59 => ?_⟩
   have hx59 : Ext w57 w59 := Ext.new hw59
   have hB59 : Blk w59 b58 49 x56 := Blk.new hb58 hw59
   have hb58w : w44.heap.size ≤ b58 := by rw [hb58]; exact (hx55.trans hx57).size
   have hb58p : w55.heap.size ≤ b58 := by rw [hb58]; exact hx57.size
   have hb58l := hB59.lt
   have hD59 : DAt w59 (fun k => w44.heap.size ≤ k ∧ k ≠ b58) pd bb (fresh 5) := ((h55.mono (base' := fun k => w44.heap.size ≤ k ∧ k ≠ b58) fun k hk hu => ⟨hu, by omega⟩).ext hx57).ext hx59
   have hs59 : w55.heap.size ≤ w59.heap.size := (hx57.trans hx59).size
   have hb1w : b1 < w44.heap.size := Nat.lt_of_lt_of_le hB20.lt hx44'.size
   have hb1F : ¬ Foot pd bb b1 := by rintro (e | e) <;> omega
   have hb58F : ¬ Foot pd bb b58 := by rintro (e | e) <;> omega
   refine ⟨fun st w' => ∃ (i : Nat) (D : Dk) (cs : List Value), i ≤ 5 ∧ st = (i : Int) ∧ DAt w' (fun k => w44.heap.size ≤ k ∧ k ≠ b58) pd bb D ∧ RAt w' (fun k => ¬ Foot pd bb k) cs D ∧ Blk w' b58 49 cs ∧ Play 5 i D ∧ D.down = false ∧ D.falls = [] ∧ Ext w44 w' ∧ Blk w' b1 81 (hdC hh.1 ++ hdC hh.2) ∧ w59.heap.size ≤ w'.heap.size,
    fun st _ => 5 - st.toNat, ⟨0, fresh 5, x56, by decide, rfl, hD59, hA57.ext hx59, hB59, play_fresh 5, rfl, rfl, (hx55.trans hx57).trans hx59, ((((hB20.ext hx44').ext hx55).ext hx57).ext hx59), Nat.le_refl _⟩, ?_⟩
   rintro st w61 ⟨i, D, cs, hi, rfl, hD, hA, hBd, hP, hdn, hfa, hx61, hBh, hs61⟩
   have hPl := hP.len
   refine ⟨fun hlt => ?_, fun hge => ?_⟩
   ·have hlt : i < 5 := by
     have := of_decide_eq_true hlt
     have h5 : (i : Int) < ((5 : Nat) : Int) := this
     omega
    obtain ⟨o, ho, eo⟩ : ∃ o : Nat, o ≤ 1024 ∧ IntKind.i64.wrap (mx 0 (IntKind.i64.wrap ((i : Int) - 2)) * 512) = (o : Int) := by
     rw [w64_eq (x := (i : Int) - 2) (by omega) (by omega)]
     unfold mx
     split
     ·refine ⟨(i - 2) * 512, by omega, ?_⟩
      rw [w64_eq (by omega) (by omega)]; omega
     ·exact ⟨0, by omega, by rw [w64_eq (by omega) (by omega)]; omega⟩
    rw [eo]
    have elen : ((S.take (Int.toNat (S.length : Int))).drop (Int.toNat (o : Int))).length = S.length - o := by
     rw [Int.toNat_natCast, Int.toNat_natCast, List.take_length, List.length_drop]
    refine ⟨⟨by omega, by omega, by omega⟩, ⟨by omega, by decide, by rw [elen]; omega⟩, ?_⟩
    refine jn_of fun k3 hk3 => ?_
    -- a block is written to both
    have key : ∀ (b : List UInt8) (w99 : World), b.length = 512 → Ext w61 w99 → k3 b w99 := by
     intro b w99 hb hx99
     rw [hk3]
     intro e n bx w108 hbn _ hbx hw108
     have hx108 : Ext w99 w108 := by
      rw [hw108]
      exact Below.alloc (Below.drew (Ext.refl w99)) (Nat.le_refl _) _
     have hdsz : (World.drew w99).heap.size = w99.heap.size := rfl
     have hby : Bytes w108 ⟨some ⟨bx, 0, none⟩, b.length, n⟩ b := by
      refine ⟨rfl, ?_⟩
      refine At.block (cur := (u8s b ++ List.replicate (n - b.length) (Value.int .u8 0)).toArray) (e := e) (fr := (n, n + 1)) ?_ ?_
      ·rw [hw108, hbx, ← hdsz]
       exact heap_alloc_new (World.drew w99) _
      ·rw [List.drop_zero, ← u8s_length b]
       simp
     have hx108' := hx99.trans hx108
     have hsz := hx108'.size
     refine cR_of (write_ok (hD.ext hx108') (by have := hP.ch; omega) (by have := hP.pend; omega) (fun k hk => ⟨Nat.le_trans (hx61.trans hx108').size hk, by omega⟩) (i : Int) _ b hby) ?_
     have hwf := write_free hdn hfa (i := i) (by omega) hb
     rw [hwf]
     rintro x109 w110 ⟨rfl, h110, hf110⟩
     refine ⟨fun h => absurd h (by simp), fun _ => ?_⟩
     have hA110 := (hA.ext hx108').foot hf110 fun k hk => hk
     have hB110 := (hBd.ext hx108').fr hf110 hb58F
     have hcl := hA.len
     have hs110 := hf110.size
     refine ⟨cs, hcl, hB110.at (by rw [List.drop_zero, List.take_length]), ?_⟩
     refine cR_of (rput_ok w110 cs D hA110 hD.wf (by have := hP.ch; omega) (by have := hP.pend; omega) (fun k hk => by rintro (e | e) <;> omega) (i : Int) b) ?_
     rw [hwf]
     rintro ⟨cs2, e2⟩ w114 ⟨he2, hA114, hx114⟩
     simp only at he2 hA114
     subst he2
     refine ⟨hA114.len, hA114.one, fun b115 w116 hb115 hw116 => ?_⟩
     have hx116 : Ext w114 w116 := Ext.new hw116
     have hB115 : Blk w116 b115 49 cs2 := Blk.new hb115 hw116
     refine ⟨cs2, hA114.len, hB115.at (by rw [List.drop_zero, List.take_length]), ?_⟩
     have hx116' := hx114.trans hx116
     obtain ⟨s1, s2, s3, ecs, _⟩ := id hA
     have hB116 := hB110.ext hx116'
     rw [ecs] at hB116
     refine put_ans (hA114.ext hx116) hB116 fun w118 hA118 hB118 hf118 => ?_
     refine ⟨fun h => absurd h (by simp), fun _ => ?_⟩
     rw [w64_eq (by omega) (by omega)]
     have hPw := play_write hP (i : Int) b
     rw [hwf] at hPw
     have hx110 := footExt hf110 (hx61.trans hx108') hpd hbb
     refine ⟨⟨i + 1, _, cs2, by omega, by omega, (h110.ext hx116').fr hf118 fun k hk e => hk.2 e, hA118, hB118, hPw, hdn, hfa, hf118.ext (hx110.trans hx116') fun k _ e => by rw [e]; exact hb58w, (((hBh.ext hx108').fr hf110 hb1F).ext hx116').fr hf118 (by omega), ?_⟩, by simp only; omega⟩
     have := hx116'.size; have := hf118.size
     omega
    refine ⟨fun hi2 => ?_, fun hi2 => ?_⟩
    ·have hi2 : i < 2 := by
      have := of_decide_eq_true hi2
      have h5 : (i : Int) < ((2 : Nat) : Int) := this
      omega
     obtain ⟨d, hd, q0, q1, q2⟩ := hd_cells hBh hi2
     have hdok : HdOk d := by rcases hd with rfl | rfl; exact hok.1; exact hok.2
     intro w71 hw71
     have hx71 : Ext w61 w71 := by subst hw71; exact Ext.drew _
     refine ⟨by omega, by show (i : Int) < ((2 : Nat) : Int); omega, fun a73 ha73 => ?_⟩
     have ea : Addr.add ⟨b1, 0, none⟩ (Int.toNat (i : Int) * 3) = ⟨b1, i * 3, none⟩ := by rw [add_plain, Nat.zero_add, Int.toNat_natCast]
     rw [ea] at ha73
     subst ha73
     refine ⟨(d.1 : Int), by rw [add_plain]; exact q0, by omega, by show (i : Int) < ((2 : Nat) : Int); omega, fun a76 ha76 => ?_⟩
     rw [ea] at ha76
     subst ha76
     refine ⟨(d.2.1 : Int), by rw [add_plain]; exact q1, ?_⟩
     refine cR_of (rhead_bytes w71 d.1 d.2.1 hdok.1 hdok.2) ?_
     rintro x79 w80 ⟨rfl, hx80⟩
     intro e n bx w82 hbn _ hbx hw82
     have hl512 := headB_len d.1 d.2.1
     have hx82 : Ext w80 w82 := by
      rw [hw82]
      exact Below.alloc (Below.drew (Ext.refl w80)) (Nat.le_refl _) _
     have hR : BlkN w82 bx e (n, n + 1) (u8s (headB d.1 d.2.1) ++ List.replicate (n - (headB d.1 d.2.1).length) (Value.int .u8 0)) := by
      unfold BlkN
      rw [hw82, hbx]
      exact heap_alloc_new (World.drew w80) _
     intro w83 hw83
     have hx83 : Ext w82 w83 := by subst hw83; exact Ext.drew _
     have hxx := (hx71.trans hx80).trans hx82
     have hBh82 := hBh.ext hxx
     obtain ⟨q0', q1', q2'⟩ : w82.cell? ⟨b1, i * 3, none⟩ = some (.int .u64 (d.1 : Int)) ∧ w82.cell? ⟨b1, i * 3 + 1, none⟩ = some (.int .u64 (d.2.1 : Int)) ∧ w82.cell? ⟨b1, i * 3 + 2, none⟩ = some (.int .u8 (d.2.2.toNat : Int)) := by
      have hcell : ∀ {o : Nat} {v : Value}, w61.cell? ⟨b1, o, none⟩ = some v → w82.cell? ⟨b1, o, none⟩ = some v := fun hv => (World.cell?_of_block (hxx.block b1 hBh.lt)).trans hv
      exact ⟨hcell q0, hcell q1, hcell q2⟩
     refine ⟨by omega, by show (i : Int) < ((2 : Nat) : Int); omega, fun a85 ha85 => ?_⟩
     rw [ea] at ha85
     subst ha85
     refine ⟨(d.1 : Int), by rw [add_plain]; exact q0', ?_⟩
     have et : IntKind.i64.wrap (24 + IntKind.i64.wrap (Int.tmod (d.1 : Int) 24)) = ((24 + d.1 % 24 : Nat) : Int) := by
      rw [Int.tmod_eq_emod_of_nonneg (by omega), w64_eq (x := (d.1 : Int) % 24) (by omega) (by omega), w64_eq (by omega) (by omega)]; omega
     have hto : 24 + d.1 % 24 < 48 := by omega
     have eix : Addr.add ⟨bx, 0, none⟩ (Int.toNat ((24 + d.1 % 24 : Nat) : Int) * 1) = ⟨bx, 24 + d.1 % 24, none⟩ := by rw [add_plain, Nat.zero_add, Int.toNat_natCast, Nat.mul_one]
     have hcell88 : (u8s (headB d.1 d.2.1) ++ List.replicate (n - (headB d.1 d.2.1).length) (Value.int .u8 0))[24 + d.1 % 24]? = some (.int .u8 ((headB d.1 d.2.1)[24 + d.1 % 24]'(by omega)).toNat) := by
      rw [List.getElem?_append_left (by rw [u8s_length]; omega)]
      exact u8s_get (List.getElem?_eq_getElem (by omega))
     refine ⟨⟨bx, 0, none⟩, _, rfl, by rw [et]; omega, by rw [et]; show _ < (((headB d.1 d.2.1).length : Nat) : Int); omega, rfl, ?_⟩
     rw [et, eix]
     refine ⟨_, hR.cell hcell88, by omega, by show (i : Int) < ((2 : Nat) : Int); omega, fun a91 ha91 => ?_⟩
     rw [ea] at ha91
     subst ha91
     refine ⟨(d.2.2.toNat : Int), by rw [add_plain]; exact q2', ⟨bx, 0, none⟩, _, rfl, by omega, by show _ < (((headB d.1 d.2.1).length : Nat) : Int); omega, rfl, ?_⟩
     rw [eix]
     obtain ⟨c, ec⟩ := xor8 (((headB d.1 d.2.1)[24 + d.1 % 24]'(by omega)).toNat : Int) (d.2.2.toNat : Int)
     rw [ec]
     have hR83 : BlkN w83 bx e (n, n + 1) (u8s (headB d.1 d.2.1) ++ List.replicate (n - (headB d.1 d.2.1).length) (Value.int .u8 0)) := (hx83.block bx (Array.getElem?_eq_some_iff.1 hR).1).trans hR
     refine ⟨_, hR83.cell hcell88, hR83.unfrozen (by omega), fun w96 hw96 => ?_⟩
     have hR96 := hR83.setCell (o := 24 + d.1 % 24) (.int .u8 (c.toNat : Int))
     rw [← hw96, List.set_append_left _ _ (by rw [u8s_length]; omega), u8s_set] at hR96
     have hx96 : Ext w61 w96 := by
      rw [hw96]
      exact (setCell_fr w83 bx _ _).ext (hxx.trans hx83) fun k _ e => by rw [e, hbx]; exact (hx71.trans hx80).size
     have hsl : ((headB d.1 d.2.1).set (24 + d.1 % 24) c).length = 512 := by rw [List.length_set, hl512]
     refine ⟨(headB d.1 d.2.1).set (24 + d.1 % 24) c, by rw [List.length_set], ?_, ?_⟩
     ·refine At.block hR96 ?_
      show ((u8s ((headB d.1 d.2.1).set (24 + d.1 % 24) c) ++ List.replicate (n - (headB d.1 d.2.1).length) (Value.int .u8 0)).drop 0).take (u8s ((headB d.1 d.2.1).set (24 + d.1 % 24) c)).length = _
      rw [List.drop_zero, List.take_left]
     ·exact key _ w96 hsl hx96
    ·refine key _ w61 ?_ (Ext.refl _)
     show (((S.take (Int.toNat (S.length : Int))).drop (Int.toNat (o : Int))).take 512).length = 512
     rw [List.length_take, elen]
     omega
   ·have hge : i = 5 := by
     have := of_decide_eq_false hge
     have h5 : ¬ (i : Int) < ((5 : Nat) : Int) := this
     omega
    subst hge
    have hcl := hA.len
    have e11 : (cs ++ ([Value.int .i64 0] : List Value) ++ ([Value.int .i64 0] : List Value) ++ ([Value.int .u64 0] : List Value) ++ ([str []] : List Value) ++ ([Value.int .i64 0] : List Value) ++ ([Value.bool false] : List Value)) = jc cs 0 0 0 [] 0 false := jc_parts _ _ _ _ _ _ _
    refine ⟨cs, hcl, hBd.at (by rw [List.drop_zero, List.take_length]), ?_⟩
    show rq _ (rq _ (newB _ _ _ _))
    rw [e11]
    refine ⟨hcl, jc_len hcl, fun q w124 hq hw124 => ?_⟩
    have hx124 : Ext w61 w124 := Ext.new hw124
    have hB124 : Blk w124 q 54 (bC pd none (jc cs 0 0 0 [] 0 false)) := Blk.new hq hw124
    have hq44 : w44.heap.size ≤ q := by rw [hq]; exact hx61.size
    have hD124 : DAt w124 (fun k => w44.heap.size ≤ k ∧ k ≠ q) pd bb D := (hD.mono (base' := fun k => w44.heap.size ≤ k ∧ k ≠ q) fun k hk hu => ⟨hu.1, by omega⟩).ext hx124
    have hA124 : RAt w124 (fun k => ¬ Foot pd bb k ∧ k ≠ q) cs D := (hA.mono (B' := fun k => ¬ Foot pd bb k ∧ k ≠ q) fun k hk hu => ⟨hu, by omega⟩).ext hx124
    refine cR_of (Both.openIt (frm := 0) (blocks := 5) (J := ⟨0, [], 0, false⟩) hP (hx61.trans hx124) hq44 hD124 hB124 hA124 (by decide) (by decide) (by decide) (by decide)) ?_
    rintro x125 w126 ⟨rfl, hb⟩
    refine jn_of fun k4 hk4 => ⟨fun _ => ?_, fun h => absurd h (by simp)⟩
    refine cR_of hb.like ?_
    rintro x129 w130 ⟨rfl, hx130⟩
    rw [hk4]
    exact ⟨rfl, (hxw44.trans hb.ext).trans hx130⟩
end Go.Proofs.Ytagkcbbbdlmcjaa
end

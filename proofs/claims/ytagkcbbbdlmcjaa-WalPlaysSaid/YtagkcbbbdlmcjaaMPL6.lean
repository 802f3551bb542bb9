/- Parts of a proof, one behind the other: readings of functions, what they do, and what follows. -/
import Derived.Test.YtagkcbbbdlmcjaaMPL5
set_option linter.unusedVariables false
set_option linter.unusedSimpArgs false
section
/- The typed readings of the functions, and that the program meets each: written by gen.py (a program of this session). -/
namespace Go.Proofs.Ytagkcbbbdlmcjaa
open Go.Lift
set_option maxRecDepth 100000 in
set_option maxHeartbeats 4000000 in
theorem s26_calls (K : Bool → World → Prop) (p0 : Option Addr) (p1 : List Value) (p2 : Int) (w : World) (h : s26 K p0 p1 p2 w) :
  Calls Try.prog 26 #[.pointer p0, aggv p1, .int .i64 p2] w (Ret r26 K) := by
 unfold s26 at h
 refine calls_of_CW (n := 139) Try.func26 rfl rfl rfl ?_
 refine CW.seq ?_
 refine CW.region ?_
 obtain ⟨b1, hb1_⟩ : ∃ b_, b_ = w.heap.size := ⟨_, rfl⟩
 obtain ⟨w2, hw2_⟩ : ∃ w_, w_ = w.alloc (.cells (List.toArray p1) 29) := ⟨_, rfl⟩
 have h := h b1 w2 hb1_ hw2_
 refine RL.opS trivial rfl (OpW.boxE (cs := p1) (rfl) hb1_ hw2_ ?_)
 refine RL.opS trivial rfl (OpW.assign (v := .bool false) rfl ?_)
 refine RL.nil ?_
 refine CW.seq ?_
 refine CW.region ?_
 refine RL.opS trivial rfl (OpW.assign (v := .int .i64 0) rfl ?_)
 refine RL.opS trivial rfl (OpW.assign (v := .int .i64 0) rfl ?_)
 refine RL.nil ?_
 refine jn_elim h ?_; clear h; intro k127 hk128 h
 refine CW.seqJ (A := Int × Int) (fun s113 ρ => ρ 7 = .int .i64 s113.1 ∧ ρ 8 = .int .i64 s113.2 ∧ ρ 0 = .pointer p0) k127 ?_ ?_
 ·rintro s113 ρ w114 ⟨e115, e116, e117⟩ h
  subst hk128
  refine CW.seq ?_
  refine CW.region ?_
  refine RL.opS trivial rfl (OpW.move (v := .int .i64 s113.1) e115 ?_)
  refine RL.opS trivial rfl (OpW.move (v := .int .i64 s113.2) e116 ?_)
  refine RL.opS trivial rfl (OpW.bin (k := .i64) (a := s113.1) (b := s113.2) (v := .bool (decide (s113.1 = s113.2))) rfl rfl rfl ?_)
  refine RL.opS trivial rfl (OpW.move (v := .bool (decide (s113.1 = s113.2))) rfl ?_)
  refine jn_elim h ?_; clear h; intro k125 hk126 h
  refine RL.joinAt (A := Bool) 3 (fun s122 ρ => ρ 138 = .bool s122) k125 ?_ ?_
  ·rintro s122 ρ w123 e124 h
   subst hk126
   dsimp only [List.drop]
   refine RL.opS trivial rfl (OpW.assign (v := .bool s122) e124 ?_)
   refine RL.nil ?_
   refine CW.ret ?_
   exact ret_intro (res1 rfl rfl) ⟨s122, rfl, h⟩
  ·clear hk126
   dsimp only [List.take]
   obtain ⟨ha, hc⟩ := h
   rcases Bool.eq_false_or_eq_true (decide (s113.1 = s113.2)) with hb118 | hb118
   ·have h := ha hb118; clear ha hc
    refine RL.opS (wanted_of rfl rfl hb118) rfl (OpW.move (v := .pointer p0) e117 ?_)
    refine RL.opS (wanted_of rfl rfl hb118) rfl (OpW.callR (al := [.pointer p0]) Try.func43 fb_43 fn_43 rfl h (fun x120 w121 h => ?_))
    refine RL.opS trivial rfl (OpW.pick (b := true) (v := .bool x120) (congrArg Value.bool hb118) rfl ?_)
    refine RL.nil ?_
    exact ⟨x120, rfl, h⟩
   ·have h := hc hb118; clear ha hc
    refine RL.skipS (notWanted_of rfl rfl hb118) rfl ?_
    refine RL.skipS (notWanted_of rfl rfl hb118) rfl ?_
    refine RL.opS trivial rfl (OpW.pick (b := false) (v := .bool false) (congrArg Value.bool hb118) rfl ?_)
    refine RL.nil ?_
    exact ⟨false, rfl, h⟩
 ·clear hk128
  refine CW.seq ?_
  refine CW.region ?_
  refine RL.opS trivial rfl (OpW.fieldAddr (off := 0) field_29_0 rfl ?_)
  obtain ⟨x4, h1, h⟩ := h
  refine RL.opS trivial rfl (OpW.load1 (v := .int .i64 x4) one_3 rfl h1 ?_)
  refine RL.opS trivial rfl (OpW.convInt (a := x4) int_3 int_66 rfl ?_)
  refine RL.opS trivial rfl (OpW.quo (a := (IntKind.u64.wrap x4)) (b := 5) (v := .int .u64 (Int.tmod (IntKind.u64.wrap x4) 5)) rfl rfl (by decide) rfl ?_)
  refine RL.nil ?_
  refine CW.block ?_
  refine CW.seq ?_
  refine CW.region ?_
  refine RL.opS trivial rfl (OpW.bin (k := .u64) (a := (Int.tmod (IntKind.u64.wrap x4) 5)) (b := 0) (v := .bool (decide ((Int.tmod (IntKind.u64.wrap x4) 5) = 0))) rfl rfl rfl ?_)
  refine RL.opS trivial rfl (OpW.assign (v := .bool (decide ((Int.tmod (IntKind.u64.wrap x4) 5) = 0))) rfl ?_)
  refine RL.nil ?_
  obtain ⟨ha, hc⟩ := h
  refine CW.cond (b := (decide ((Int.tmod (IntKind.u64.wrap x4) 5) = 0))) rfl (fun hb5 => ?_) (fun hb5 => ?_)
  ·have h := ha hb5; clear ha hc
   refine CW.seq ?_
   obtain ⟨w6, hw6_⟩ : ∃ w_, w_ = w2.drew := ⟨_, rfl⟩
   have h := h w6 hw6_
   have hx7 : Ext w2 w6 := by rw [hw6_]; exact Ext.drew _
   refine CW.draws (m := 8) (listed := #[F,F,F,F,F,F,F,F]) mixed [0, 1, 2, 3, 4, 5, 7] (Ext w2) rfl rfl ?_
   rw [← hw6_]
   refine DL.takeP (listed' := #[T,F,F,F,F,F,F,F]) (v := .pointer p0) 0 rfl rfl (by kernel_rfl) rfl trivial rfl (fun w_ K_ h_ => OpW.move (v := .pointer p0) rfl h_) ?_
   obtain ⟨a8, ha9, h⟩ := h
   refine DL.takeP (listed' := #[T,T,F,F,F,F,F,F]) (v := .pointer (some a8)) 1 rfl rfl (by kernel_rfl) rfl trivial rfl (fun w_ K_ h_ => OpW.nilCheck (a := a8) (congrArg Value.pointer ha9) h_) ?_
   refine DL.takeP (listed' := #[T,T,T,F,F,F,F,F]) (v := .pointer (some (Addr.add a8 1))) 2 rfl rfl (by kernel_rfl) rfl trivial rfl (fun w_ K_ h_ => OpW.fieldAddr field_54_1 rfl h_) ?_
   obtain ⟨x10, h1, h⟩ := h
   refine DL.takeK (listed' := #[T,T,T,T,F,F,F,F]) (v := .pointer x10) 3 rfl rfl (by kernel_rfl) (by kernel_rfl) rfl trivial rfl hx7 (fun w_ hS_ K_ h_ => OpW.load1 (v := .pointer x10) one_35 rfl (hS_.cell h1) h_) ?_
   refine DL.takeP (listed' := #[T,T,T,T,T,F,F,F]) (v := .pointer (some (Addr.add ⟨b1, 0, none⟩ 1))) 4 rfl rfl (by kernel_rfl) rfl trivial rfl (fun w_ K_ h_ => OpW.fieldAddr field_29_1 rfl h_) ?_
   obtain ⟨x11, h1, h⟩ := h
   refine DL.takeK (listed' := #[T,T,T,T,T,T,F,F]) (v := Sl.v x11) 5 rfl rfl (by kernel_rfl) (by kernel_rfl) rfl trivial rfl hx7 (fun w_ hS_ K_ h_ => OpW.load1 (v := Sl.v x11) one_22 rfl (hS_.cell h1) h_) ?_
   refine DL.execS (listed' := #[T,T,T,T,T,T,T,F]) 6 rfl (by kernel_rfl) rfl trivial rfl (OpW.callR (al := [.pointer x10, Sl.v x11]) Try.func20 fb_20 fn_20 rfl h (fun x12 w13 h => ?_))
   refine ⟨(fun h_ => absurd h_ (by decide)), ?_⟩
   refine DL.takeP (listed' := #[T,T,T,T,T,T,T,T]) (v := .int .i64 x12) 7 rfl rfl (by kernel_rfl) rfl trivial rfl (fun w_ K_ h_ => OpW.assign (v := .int .i64 x12) rfl h_) ?_
   refine DL.done (by kernel_rfl) ?_
   obtain ⟨w14, hw14_⟩ : ∃ w_, w_ = w13.drew := ⟨_, rfl⟩
   have h := h w14 hw14_
   have hx15 : Ext w13 w14 := by rw [hw14_]; exact Ext.drew _
   refine CW.draws (m := 16) (listed := #[F,F,F,F,F,F,F,F,F,F,F,F,F,F,F,F]) mixed [0, 1, 2, 3, 4, 5, 6, 7, 9, 10, 11, 12, 13, 15] (Ext w13) rfl rfl ?_
   rw [← hw14_]
   refine DL.takeP (listed' := #[T,F,F,F,F,F,F,F,F,F,F,F,F,F,F,F]) (v := .pointer p0) 0 rfl rfl (by kernel_rfl) rfl trivial rfl (fun w_ K_ h_ => OpW.move (v := .pointer p0) rfl h_) ?_
   refine DL.takeP (listed' := #[T,T,F,F,F,F,F,F,F,F,F,F,F,F,F,F]) (v := .pointer p0) 1 rfl rfl (by kernel_rfl) rfl trivial rfl (fun w_ K_ h_ => OpW.move (v := .pointer p0) rfl h_) ?_
   obtain ⟨a16, ha17, h⟩ := h
   refine DL.takeP (listed' := #[T,T,T,F,F,F,F,F,F,F,F,F,F,F,F,F]) (v := .pointer (some a16)) 2 rfl rfl (by kernel_rfl) rfl trivial rfl (fun w_ K_ h_ => OpW.nilCheck (a := a16) (congrArg Value.pointer ha17) h_) ?_
   refine DL.takeP (listed' := #[T,T,T,T,F,F,F,F,F,F,F,F,F,F,F,F]) (v := .pointer (some (Addr.add a16 2))) 3 rfl rfl (by kernel_rfl) rfl trivial rfl (fun w_ K_ h_ => OpW.fieldAddr field_54_2 rfl h_) ?_
   obtain ⟨x18, h1, h2, h⟩ := h
   refine DL.takeK (listed' := #[T,T,T,T,T,F,F,F,F,F,F,F,F,F,F,F]) (v := aggv x18) 4 rfl rfl (by kernel_rfl) (by kernel_rfl) rfl trivial rfl hx15 (fun w_ hS_ K_ h_ => OpW.loadA agg_52 rfl h1 (hS_.at h2) h_) ?_
   refine DL.takeP (listed' := #[T,T,T,T,T,T,F,F,F,F,F,F,F,F,F,F]) (v := .pointer (some (Addr.add ⟨b1, 0, none⟩ 1))) 5 rfl rfl (by kernel_rfl) rfl trivial rfl (fun w_ K_ h_ => OpW.fieldAddr field_29_1 rfl h_) ?_
   obtain ⟨x19, h1, h⟩ := h
   refine DL.takeK (listed' := #[T,T,T,T,T,T,T,F,F,F,F,F,F,F,F,F]) (v := Sl.v x19) 6 rfl rfl (by kernel_rfl) (by kernel_rfl) rfl trivial rfl hx15 (fun w_ hS_ K_ h_ => OpW.load1 (v := Sl.v x19) one_22 rfl (hS_.cell h1) h_) ?_
   refine DL.execS (listed' := #[T,T,T,T,T,T,T,T,F,F,F,F,F,F,F,F]) 7 rfl (by kernel_rfl) rfl trivial rfl (OpW.callR (al := [Sl.v x19]) Try.func44 fb_44 fn_44 rfl h (fun x20 w21 h => ?_))
   obtain ⟨hx22, h⟩ := h
   refine ⟨(fun _ _ => hx22), ?_⟩
   refine DL.execS (listed' := #[T,T,T,T,T,T,T,T,T,F,F,F,F,F,F,F]) 8 rfl (by kernel_rfl) rfl trivial rfl (OpW.callR (al := [aggv x18, Sl.v x20]) Try.func56 fb_56 fn_56 rfl h (fun x23 w24 h => ?_))
   refine ⟨(fun h_ => absurd h_ (by decide)), ?_⟩
   refine DL.takeP (listed' := #[T,T,T,T,T,T,T,T,T,T,F,F,F,F,F,F]) (v := .tuple #[aggv x23.1, .int .i64 x23.2]) 9 rfl rfl (by kernel_rfl) rfl trivial rfl (fun w_ K_ h_ => OpW.move (v := .tuple #[aggv x23.1, .int .i64 x23.2]) rfl h_) ?_
   refine DL.takeP (listed' := #[T,T,T,T,T,T,T,T,T,T,T,F,F,F,F,F]) (v := aggv x23.1) 10 rfl rfl (by kernel_rfl) rfl trivial rfl (fun w_ K_ h_ => OpW.extract (v := aggv x23.1) rfl rfl h_) ?_
   refine DL.takeP (listed' := #[T,T,T,T,T,T,T,T,T,T,T,T,F,F,F,F]) (v := .int .i64 x23.2) 11 rfl rfl (by kernel_rfl) rfl trivial rfl (fun w_ K_ h_ => OpW.extract (v := .int .i64 x23.2) rfl rfl h_) ?_
   obtain ⟨a25, ha26, h⟩ := h
   refine DL.takeP (listed' := #[T,T,T,T,T,T,T,T,T,T,T,T,T,F,F,F]) (v := .pointer (some a25)) 12 rfl rfl (by kernel_rfl) rfl trivial rfl (fun w_ K_ h_ => OpW.nilCheck (a := a25) (congrArg Value.pointer ha26) h_) ?_
   refine DL.takeP (listed' := #[T,T,T,T,T,T,T,T,T,T,T,T,T,T,F,F]) (v := .pointer (some (Addr.add a25 2))) 13 rfl rfl (by kernel_rfl) rfl trivial rfl (fun w_ K_ h_ => OpW.fieldAddr field_54_2 rfl h_) ?_
   obtain ⟨g_, o_, e_, cur_, ha_, h1, h2, h3, h4, h⟩ := h
   obtain ⟨w27, hw27_⟩ : ∃ w_, w_ = w24.setRow g_ (cur_.toList.take o_ ++ x23.1 ++ cur_.toList.drop (o_ + List.length x23.1)).toArray := ⟨_, rfl⟩
   have h := h w27 hw27_
   refine DL.execN (listed' := #[T,T,T,T,T,T,T,T,T,T,T,T,T,T,T,F]) 14 rfl (by kernel_rfl) rfl trivial (OpW.storeAE (cs := x23.1) size_52 rfl rfl ha_ h1 h2 h3 h4 hw27_ ?_)
   refine ⟨(fun h_ => absurd h_ (by decide)), ?_⟩
   refine DL.takeP (listed' := #[T,T,T,T,T,T,T,T,T,T,T,T,T,T,T,T]) (v := .int .i64 x23.2) 15 rfl rfl (by kernel_rfl) rfl trivial rfl (fun w_ K_ h_ => OpW.assign (v := .int .i64 x23.2) rfl h_) ?_
   refine DL.done (by kernel_rfl) ?_
   exact ⟨(x12, x23.2), ⟨rfl, rfl, rfl⟩, h⟩
  ·have h := hc hb5; clear ha hc
   refine CW.seq ?_
   refine CW.region ?_
   refine RL.opS trivial rfl (OpW.bin (k := .u64) (a := (Int.tmod (IntKind.u64.wrap x4) 5)) (b := 1) (v := .bool (decide ((Int.tmod (IntKind.u64.wrap x4) 5) = 1))) rfl rfl rfl ?_)
   refine RL.opS trivial rfl (OpW.assign (v := .bool (decide ((Int.tmod (IntKind.u64.wrap x4) 5) = 1))) rfl ?_)
   refine RL.nil ?_
   obtain ⟨ha, hc⟩ := h
   refine CW.cond (b := (decide ((Int.tmod (IntKind.u64.wrap x4) 5) = 1))) rfl (fun hb28 => ?_) (fun hb28 => ?_)
   ·have h := ha hb28; clear ha hc
    refine CW.seq ?_
    refine CW.region ?_
    refine RL.opS trivial rfl (OpW.move (v := .pointer p0) rfl ?_)
    obtain ⟨a29, ha30, h⟩ := h
    refine RL.opS trivial rfl (OpW.nilCheck (a := a29) (congrArg Value.pointer ha30) ?_)
    refine RL.opS trivial rfl (OpW.fieldAddr field_54_1 rfl ?_)
    obtain ⟨x31, h1, h⟩ := h
    refine RL.opS trivial rfl (OpW.load1 (v := .pointer x31) one_35 rfl h1 ?_)
    refine RL.opS trivial rfl (OpW.callR (al := [.pointer x31]) Try.func21 fb_21 fn_21 rfl h (fun x32 w33 h => ?_))
    refine RL.opS trivial rfl (OpW.assign (v := .int .i64 x32) rfl ?_)
    refine RL.nil ?_
    refine CW.region ?_
    refine RL.opS trivial rfl (OpW.move (v := .pointer p0) rfl ?_)
    refine RL.opS trivial rfl (OpW.move (v := .pointer p0) rfl ?_)
    obtain ⟨a34, ha35, h⟩ := h
    refine RL.opS trivial rfl (OpW.nilCheck (a := a34) (congrArg Value.pointer ha35) ?_)
    refine RL.opS trivial rfl (OpW.fieldAddr field_54_2 rfl ?_)
    obtain ⟨x36, h1, h2, h⟩ := h
    refine RL.opS trivial rfl (OpW.loadA agg_52 rfl h1 h2 ?_)
    refine RL.opS trivial rfl (OpW.callR (al := [aggv x36]) Try.func57 fb_57 fn_57 rfl h (fun x37 w38 h => ?_))
    refine RL.opS trivial rfl (OpW.move (v := .tuple #[aggv x37.1, .int .i64 x37.2]) rfl ?_)
    refine RL.opS trivial rfl (OpW.extract (v := aggv x37.1) rfl rfl ?_)
    refine RL.opS trivial rfl (OpW.extract (v := .int .i64 x37.2) rfl rfl ?_)
    obtain ⟨a39, ha40, h⟩ := h
    refine RL.opS trivial rfl (OpW.nilCheck (a := a39) (congrArg Value.pointer ha40) ?_)
    refine RL.opS trivial rfl (OpW.fieldAddr field_54_2 rfl ?_)
    obtain ⟨g_, o_, e_, cur_, ha_, h1, h2, h3, h4, h⟩ := h
    obtain ⟨w41, hw41_⟩ : ∃ w_, w_ = w38.setRow g_ (cur_.toList.take o_ ++ x37.1 ++ cur_.toList.drop (o_ + List.length x37.1)).toArray := ⟨_, rfl⟩
    have h := h w41 hw41_
    refine RL.opN trivial (OpW.storeAE (cs := x37.1) size_52 rfl rfl ha_ h1 h2 h3 h4 hw41_ ?_)
    refine RL.opS trivial rfl (OpW.assign (v := .int .i64 x37.2) rfl ?_)
    refine RL.nil ?_
    exact ⟨(x32, x37.2), ⟨rfl, rfl, rfl⟩, h⟩
   ·have h := hc hb28; clear ha hc
    refine CW.seq ?_
    refine CW.region ?_
    refine RL.opS trivial rfl (OpW.bin (k := .u64) (a := (Int.tmod (IntKind.u64.wrap x4) 5)) (b := 2) (v := .bool (decide ((Int.tmod (IntKind.u64.wrap x4) 5) = 2))) rfl rfl rfl ?_)
    refine RL.opS trivial rfl (OpW.assign (v := .bool (decide ((Int.tmod (IntKind.u64.wrap x4) 5) = 2))) rfl ?_)
    refine RL.nil ?_
    obtain ⟨ha, hc⟩ := h
    refine CW.cond (b := (decide ((Int.tmod (IntKind.u64.wrap x4) 5) = 2))) rfl (fun hb42 => ?_) (fun hb42 => ?_)
    ·have h := ha hb42; clear ha hc
     refine CW.seq ?_
     obtain ⟨w43, hw43_⟩ : ∃ w_, w_ = w2.drew := ⟨_, rfl⟩
     have h := h w43 hw43_
     have hx44 : Ext w2 w43 := by rw [hw43_]; exact Ext.drew _
     refine CW.draws (m := 7) (listed := #[F,F,F,F,F,F,F]) mixed [0, 1, 2, 3, 4, 5] (Ext w2) rfl rfl ?_
     rw [← hw43_]
     refine DL.takeP (listed' := #[T,F,F,F,F,F,F]) (v := .pointer p0) 0 rfl rfl (by kernel_rfl) rfl trivial rfl (fun w_ K_ h_ => OpW.move (v := .pointer p0) rfl h_) ?_
     obtain ⟨a45, ha46, h⟩ := h
     refine DL.takeP (listed' := #[T,T,F,F,F,F,F]) (v := .pointer (some a45)) 1 rfl rfl (by kernel_rfl) rfl trivial rfl (fun w_ K_ h_ => OpW.nilCheck (a := a45) (congrArg Value.pointer ha46) h_) ?_
     refine DL.takeP (listed' := #[T,T,T,F,F,F,F]) (v := .pointer (some (Addr.add a45 0))) 2 rfl rfl (by kernel_rfl) rfl trivial rfl (fun w_ K_ h_ => OpW.fieldAddr (off := 0) field_54_0 rfl h_) ?_
     obtain ⟨x47, h1, h⟩ := h
     refine DL.takeK (listed' := #[T,T,T,T,F,F,F]) (v := .pointer x47) 3 rfl rfl (by kernel_rfl) (by kernel_rfl) rfl trivial rfl hx44 (fun w_ hS_ K_ h_ => OpW.load1 (v := .pointer x47) one_31 rfl (hS_.cell h1) h_) ?_
     refine DL.takeP (listed' := #[T,T,T,T,T,F,F]) (v := .pointer (some (Addr.add ⟨b1, 0, none⟩ 2))) 4 rfl rfl (by kernel_rfl) rfl trivial rfl (fun w_ K_ h_ => OpW.fieldAddr field_29_2 rfl h_) ?_
     obtain ⟨x48, h1, h2, h⟩ := h
     refine DL.takeK (listed' := #[T,T,T,T,T,T,F]) (v := aggv x48) 5 rfl rfl (by kernel_rfl) (by kernel_rfl) rfl trivial rfl hx44 (fun w_ hS_ K_ h_ => OpW.loadA agg_27 rfl h1 (hS_.at h2) h_) ?_
     refine DL.execS (listed' := #[T,T,T,T,T,T,T]) 6 rfl (by kernel_rfl) rfl trivial rfl (OpW.callR (al := [.pointer x47, aggv x48]) Try.func35 fb_35 fn_35 rfl h (fun x49 w50 h => ?_))
     refine ⟨(fun h_ => absurd h_ (by decide)), ?_⟩
     refine DL.done (by kernel_rfl) ?_
     refine CW.seq ?_
     refine CW.region ?_
     refine RL.opS trivial rfl (OpW.move (v := .pointer p0) rfl ?_)
     obtain ⟨a51, ha52, h⟩ := h
     refine RL.opS trivial rfl (OpW.nilCheck (a := a51) (congrArg Value.pointer ha52) ?_)
     refine RL.opS trivial rfl (OpW.fieldAddr (off := 0) field_54_0 rfl ?_)
     obtain ⟨x53, h1, h⟩ := h
     refine RL.opS trivial rfl (OpW.load1 (v := .pointer x53) one_31 rfl h1 ?_)
     refine RL.opS trivial rfl (OpW.callR (al := [.pointer x53]) Try.func27 fb_27 fn_27 rfl h (fun x54 w55 h => ?_))
     refine RL.nil ?_
     refine CW.seq ?_
     obtain ⟨w56, hw56_⟩ : ∃ w_, w_ = w55.drew := ⟨_, rfl⟩
     have h := h w56 hw56_
     have hx57 : Ext w55 w56 := by rw [hw56_]; exact Ext.drew _
     refine CW.draws (m := 13) (listed := #[F,F,F,F,F,F,F,F,F,F,F,F,F]) mixed [0, 1, 2, 3, 4, 5, 6, 7, 9, 10, 11] (Ext w55) rfl rfl ?_
     rw [← hw56_]
     refine DL.takeP (listed' := #[T,F,F,F,F,F,F,F,F,F,F,F,F]) (v := .pointer p0) 0 rfl rfl (by kernel_rfl) rfl trivial rfl (fun w_ K_ h_ => OpW.move (v := .pointer p0) rfl h_) ?_
     refine DL.takeP (listed' := #[T,T,F,F,F,F,F,F,F,F,F,F,F]) (v := .pointer p0) 1 rfl rfl (by kernel_rfl) rfl trivial rfl (fun w_ K_ h_ => OpW.move (v := .pointer p0) rfl h_) ?_
     obtain ⟨a58, ha59, h⟩ := h
     refine DL.takeP (listed' := #[T,T,T,F,F,F,F,F,F,F,F,F,F]) (v := .pointer (some a58)) 2 rfl rfl (by kernel_rfl) rfl trivial rfl (fun w_ K_ h_ => OpW.nilCheck (a := a58) (congrArg Value.pointer ha59) h_) ?_
     refine DL.takeP (listed' := #[T,T,T,T,F,F,F,F,F,F,F,F,F]) (v := .pointer (some (Addr.add a58 2))) 3 rfl rfl (by kernel_rfl) rfl trivial rfl (fun w_ K_ h_ => OpW.fieldAddr field_54_2 rfl h_) ?_
     refine DL.takeP (listed' := #[T,T,T,T,T,F,F,F,F,F,F,F,F]) (v := .pointer (some (Addr.add (Addr.add a58 2) 0))) 4 rfl rfl (by kernel_rfl) rfl trivial rfl (fun w_ K_ h_ => OpW.fieldAddr (off := 0) field_52_0 rfl h_) ?_
     obtain ⟨x60, h1, h2, h⟩ := h
     refine DL.takeK (listed' := #[T,T,T,T,T,T,F,F,F,F,F,F,F]) (v := aggv x60) 5 rfl rfl (by kernel_rfl) (by kernel_rfl) rfl trivial rfl hx57 (fun w_ hS_ K_ h_ => OpW.loadA agg_49 rfl h1 (hS_.at h2) h_) ?_
     refine DL.takeP (listed' := #[T,T,T,T,T,T,T,F,F,F,F,F,F]) (v := .pointer (some (Addr.add ⟨b1, 0, none⟩ 2))) 6 rfl rfl (by kernel_rfl) rfl trivial rfl (fun w_ K_ h_ => OpW.fieldAddr field_29_2 rfl h_) ?_
     obtain ⟨x61, h1, h2, h⟩ := h
     refine DL.takeK (listed' := #[T,T,T,T,T,T,T,T,F,F,F,F,F]) (v := aggv x61) 7 rfl rfl (by kernel_rfl) (by kernel_rfl) rfl trivial rfl hx57 (fun w_ hS_ K_ h_ => OpW.loadA agg_27 rfl h1 (hS_.at h2) h_) ?_
     refine DL.execS (listed' := #[T,T,T,T,T,T,T,T,T,F,F,F,F]) 8 rfl (by kernel_rfl) rfl trivial rfl (OpW.callR (al := [aggv x60, aggv x61]) Try.func58 fb_58 fn_58 rfl h (fun x62 w63 h => ?_))
     refine ⟨(fun h_ => absurd h_ (by decide)), ?_⟩
     obtain ⟨a64, ha65, h⟩ := h
     refine DL.takeP (listed' := #[T,T,T,T,T,T,T,T,T,T,F,F,F]) (v := .pointer (some a64)) 9 rfl rfl (by kernel_rfl) rfl trivial rfl (fun w_ K_ h_ => OpW.nilCheck (a := a64) (congrArg Value.pointer ha65) h_) ?_
     refine DL.takeP (listed' := #[T,T,T,T,T,T,T,T,T,T,T,F,F]) (v := .pointer (some (Addr.add a64 2))) 10 rfl rfl (by kernel_rfl) rfl trivial rfl (fun w_ K_ h_ => OpW.fieldAddr field_54_2 rfl h_) ?_
     refine DL.takeP (listed' := #[T,T,T,T,T,T,T,T,T,T,T,T,F]) (v := .pointer (some (Addr.add (Addr.add a64 2) 0))) 11 rfl rfl (by kernel_rfl) rfl trivial rfl (fun w_ K_ h_ => OpW.fieldAddr (off := 0) field_52_0 rfl h_) ?_
     obtain ⟨g_, o_, e_, cur_, ha_, h1, h2, h3, h4, h⟩ := h
     obtain ⟨w66, hw66_⟩ : ∃ w_, w_ = w63.setRow g_ (cur_.toList.take o_ ++ x62 ++ cur_.toList.drop (o_ + List.length x62)).toArray := ⟨_, rfl⟩
     have h := h w66 hw66_
     refine DL.execN (listed' := #[T,T,T,T,T,T,T,T,T,T,T,T,T]) 12 rfl (by kernel_rfl) rfl trivial (OpW.storeAE (cs := x62) size_49 rfl rfl ha_ h1 h2 h3 h4 hw66_ ?_)
     refine ⟨(fun h_ => absurd h_ (by decide)), ?_⟩
     refine DL.done (by kernel_rfl) ?_
     refine CW.seq ?_
     refine CW.region ?_
     refine RL.opS trivial rfl (OpW.move (v := .pointer p0) rfl ?_)
     obtain ⟨a67, ha68, h⟩ := h
     refine RL.opS trivial rfl (OpW.nilCheck (a := a67) (congrArg Value.pointer ha68) ?_)
     refine RL.opS trivial rfl (OpW.fieldAddr field_54_2 rfl ?_)
     refine RL.opS trivial rfl (OpW.fieldAddr (off := 0) field_52_0 rfl ?_)
     refine RL.opS trivial rfl (OpW.fieldAddr field_49_4 rfl ?_)
     obtain ⟨u_, h1, h2, h⟩ := h
     obtain ⟨w69, hw69_⟩ : ∃ w_, w_ = w66.setCell (Addr.add (Addr.add (Addr.add a67 2) 0) 4) (.bool false) := ⟨_, rfl⟩
     have h := h w69 hw69_
     refine RL.opN trivial (OpW.store1E (v := .bool false) size_4 rfl rfl rfl h1 h2 hw69_ ?_)
     refine RL.nil ?_
     refine CW.seq ?_
     refine CW.region ?_
     refine RL.opS trivial rfl (OpW.move (v := .pointer p0) rfl ?_)
     refine RL.opS trivial rfl (OpW.move (v := .int .i64 p2) rfl ?_)
     refine RL.opS trivial rfl (OpW.callR (al := [.pointer p0, .int .i64 p2]) Try.func25 fb_25 fn_25 rfl h (fun x70 w71 h => ?_))
     refine RL.opS trivial rfl (OpW.assign (v := .bool x70) rfl ?_)
     refine RL.nil ?_
     refine CW.ret ?_
     exact ret_intro (res1 rfl rfl) ⟨x70, rfl, h⟩
    ·have h := hc hb42; clear ha hc
     refine CW.seq ?_
     refine CW.region ?_
     refine RL.opS trivial rfl (OpW.bin (k := .u64) (a := (Int.tmod (IntKind.u64.wrap x4) 5)) (b := 3) (v := .bool (decide ((Int.tmod (IntKind.u64.wrap x4) 5) = 3))) rfl rfl rfl ?_)
     refine RL.opS trivial rfl (OpW.assign (v := .bool (decide ((Int.tmod (IntKind.u64.wrap x4) 5) = 3))) rfl ?_)
     refine RL.nil ?_
     obtain ⟨ha, hc⟩ := h
     refine CW.cond (b := (decide ((Int.tmod (IntKind.u64.wrap x4) 5) = 3))) rfl (fun hb72 => ?_) (fun hb72 => ?_)
     ·have h := ha hb72; clear ha hc
      refine CW.seq ?_
      refine CW.region ?_
      refine RL.opS trivial rfl (OpW.fieldAddr field_29_2 rfl ?_)
      obtain ⟨x73, h1, h2, h⟩ := h
      refine RL.opS trivial rfl (OpW.loadA agg_27 rfl h1 h2 ?_)
      obtain ⟨hl_b74, ho_b74, h⟩ := h
      obtain ⟨b74, hb74_⟩ : ∃ b_, b_ = w2.heap.size := ⟨_, rfl⟩
      obtain ⟨w75, hw75_⟩ : ∃ w_, w_ = w2.alloc (.cells (List.toArray x73) 27) := ⟨_, rfl⟩
      have h := h b74 w75 hb74_ hw75_
      refine RL.opS trivial rfl (OpW.allocZ (b := b74) zero_27 hb74_ ?_)
      refine RL.opN trivial (OpW.storeF (zs := [Value.int .i64 0, Value.int .u64 0, Value.int .i64 0]) (cs := x73) size_27 rfl rfl hl_b74 (by decide) ho_b74 hb74_ hw75_ ?_)
      refine RL.nil ?_
      refine CW.seq ?_
      obtain ⟨w76, hw76_⟩ : ∃ w_, w_ = w75.drew := ⟨_, rfl⟩
      have h := h w76 hw76_
      have hx77 : Ext w75 w76 := by rw [hw76_]; exact Ext.drew _
      refine CW.draws (m := 13) (listed := #[F,F,F,F,F,F,F,F,F,F,F,F,F]) mixed [0, 1, 2, 3, 4, 5, 6, 7, 8, 9, 10, 11] (Ext w75) rfl rfl ?_
      rw [← hw76_]
      refine DL.takeP (listed' := #[T,F,F,F,F,F,F,F,F,F,F,F,F]) (v := .pointer p0) 0 rfl rfl (by kernel_rfl) rfl trivial rfl (fun w_ K_ h_ => OpW.move (v := .pointer p0) rfl h_) ?_
      obtain ⟨a78, ha79, h⟩ := h
      refine DL.takeP (listed' := #[T,T,F,F,F,F,F,F,F,F,F,F,F]) (v := .pointer (some a78)) 1 rfl rfl (by kernel_rfl) rfl trivial rfl (fun w_ K_ h_ => OpW.nilCheck (a := a78) (congrArg Value.pointer ha79) h_) ?_
      refine DL.takeP (listed' := #[T,T,T,F,F,F,F,F,F,F,F,F,F]) (v := .pointer (some (Addr.add a78 0))) 2 rfl rfl (by kernel_rfl) rfl trivial rfl (fun w_ K_ h_ => OpW.fieldAddr (off := 0) field_54_0 rfl h_) ?_
      obtain ⟨x80, h1, h⟩ := h
      refine DL.takeK (listed' := #[T,T,T,T,F,F,F,F,F,F,F,F,F]) (v := .pointer x80) 3 rfl rfl (by kernel_rfl) (by kernel_rfl) rfl trivial rfl hx77 (fun w_ hS_ K_ h_ => OpW.load1 (v := .pointer x80) one_31 rfl (hS_.cell h1) h_) ?_
      refine DL.takeP (listed' := #[T,T,T,T,F,T,F,F,F,F,F,F,F]) (v := .pointer (some (Addr.add ⟨b74, 0, none⟩ 0))) 5 rfl rfl (by kernel_rfl) rfl trivial rfl (fun w_ K_ h_ => OpW.fieldAddr (off := 0) field_27_0 rfl h_) ?_
      obtain ⟨x81, h1, h⟩ := h
      refine DL.takeK (listed' := #[T,T,T,T,F,T,T,F,F,F,F,F,F]) (v := .int .i64 x81) 6 rfl rfl (by kernel_rfl) (by kernel_rfl) rfl trivial rfl hx77 (fun w_ hS_ K_ h_ => OpW.load1 (v := .int .i64 x81) one_3 rfl (hS_.cell h1) h_) ?_
      refine DL.takeP (listed' := #[T,T,T,T,F,T,T,T,F,F,F,F,F]) (v := .int .u64 (IntKind.u64.wrap x81)) 7 rfl rfl (by kernel_rfl) rfl trivial rfl (fun w_ K_ h_ => OpW.convInt (a := x81) int_3 int_66 rfl h_) ?_
      refine DL.takeP (listed' := #[T,T,T,T,F,T,T,T,T,F,F,F,F]) (v := .int .u64 (Int.tmod (IntKind.u64.wrap x81) 9)) 8 rfl rfl (by kernel_rfl) rfl trivial rfl (fun w_ K_ h_ => OpW.quo (a := (IntKind.u64.wrap x81)) (b := 9) (v := .int .u64 (Int.tmod (IntKind.u64.wrap x81) 9)) rfl rfl (by decide) rfl h_) ?_
      refine DL.takeP (listed' := #[T,T,T,T,F,T,T,T,T,T,F,F,F]) (v := .int .i64 (IntKind.i64.wrap (Int.tmod (IntKind.u64.wrap x81) 9))) 9 rfl rfl (by kernel_rfl) rfl trivial rfl (fun w_ K_ h_ => OpW.convInt (a := (Int.tmod (IntKind.u64.wrap x81) 9)) int_66 int_3 rfl h_) ?_
      refine DL.execS (listed' := #[T,T,T,T,T,T,T,T,T,T,F,F,F]) 4 rfl (by kernel_rfl) rfl trivial rfl (OpW.callR (al := [.pointer x80]) Try.func19 fb_19 fn_19 rfl h (fun x82 w83 h => ?_))
      obtain ⟨hx84, h⟩ := h
      refine ⟨(fun _ _ => hx84), ?_⟩
      refine DL.takeP (listed' := #[T,T,T,T,T,T,T,T,T,T,T,F,F]) (v := .int .i64 (IntKind.i64.wrap (x82 + (IntKind.i64.wrap (Int.tmod (IntKind.u64.wrap x81) 9))))) 10 rfl rfl (by kernel_rfl) rfl trivial rfl (fun w_ K_ h_ => OpW.bin (k := .i64) (a := x82) (b := (IntKind.i64.wrap (Int.tmod (IntKind.u64.wrap x81) 9))) (v := .int .i64 (IntKind.i64.wrap (x82 + (IntKind.i64.wrap (Int.tmod (IntKind.u64.wrap x81) 9))))) rfl rfl rfl h_) ?_
      refine DL.takeP (listed' := #[T,T,T,T,T,T,T,T,T,T,T,T,F]) (v := .pointer (some (Addr.add ⟨b74, 0, none⟩ 0))) 11 rfl rfl (by kernel_rfl) rfl trivial rfl (fun w_ K_ h_ => OpW.fieldAddr (off := 0) field_27_0 rfl h_) ?_
      obtain ⟨u_, h1, h2, h⟩ := h
      obtain ⟨w85, hw85_⟩ : ∃ w_, w_ = w83.setCell (Addr.add ⟨b74, 0, none⟩ 0) (.int .i64 (IntKind.i64.wrap (x82 + (IntKind.i64.wrap (Int.tmod (IntKind.u64.wrap x81) 9))))) := ⟨_, rfl⟩
      have h := h w85 hw85_
      refine DL.execN (listed' := #[T,T,T,T,T,T,T,T,T,T,T,T,T]) 12 rfl (by kernel_rfl) rfl trivial (OpW.store1E (v := .int .i64 (IntKind.i64.wrap (x82 + (IntKind.i64.wrap (Int.tmod (IntKind.u64.wrap x81) 9))))) size_3 rfl rfl rfl h1 h2 hw85_ ?_)
      refine ⟨(fun h_ => absurd h_ (by decide)), ?_⟩
      refine DL.done (by kernel_rfl) ?_
      refine CW.seq ?_
      obtain ⟨w86, hw86_⟩ : ∃ w_, w_ = w85.drew := ⟨_, rfl⟩
      have h := h w86 hw86_
      have hx87 : Ext w85 w86 := by rw [hw86_]; exact Ext.drew _
      refine CW.draws (m := 7) (listed := #[F,F,F,F,F,F,F]) mixed [0, 1, 2, 3, 4, 5] (Ext w85) rfl rfl ?_
      rw [← hw86_]
      refine DL.takeP (listed' := #[T,F,F,F,F,F,F]) (v := .pointer p0) 0 rfl rfl (by kernel_rfl) rfl trivial rfl (fun w_ K_ h_ => OpW.move (v := .pointer p0) rfl h_) ?_
      obtain ⟨a88, ha89, h⟩ := h
      refine DL.takeP (listed' := #[T,T,F,F,F,F,F]) (v := .pointer (some a88)) 1 rfl rfl (by kernel_rfl) rfl trivial rfl (fun w_ K_ h_ => OpW.nilCheck (a := a88) (congrArg Value.pointer ha89) h_) ?_
      refine DL.takeP (listed' := #[T,T,T,F,F,F,F]) (v := .pointer (some (Addr.add a88 0))) 2 rfl rfl (by kernel_rfl) rfl trivial rfl (fun w_ K_ h_ => OpW.fieldAddr (off := 0) field_54_0 rfl h_) ?_
      obtain ⟨x90, h1, h⟩ := h
      refine DL.takeK (listed' := #[T,T,T,T,F,F,F]) (v := .pointer x90) 3 rfl rfl (by kernel_rfl) (by kernel_rfl) rfl trivial rfl hx87 (fun w_ hS_ K_ h_ => OpW.load1 (v := .pointer x90) one_31 rfl (hS_.cell h1) h_) ?_
      obtain ⟨x91, h1, h2, h⟩ := h
      refine DL.takeK (listed' := #[T,T,T,T,T,F,F]) (v := aggv x91) 4 rfl rfl (by kernel_rfl) (by kernel_rfl) rfl trivial rfl hx87 (fun w_ hS_ K_ h_ => OpW.loadA agg_27 rfl h1 (hS_.at h2) h_) ?_
      obtain ⟨hl_, ho_, h⟩ := h
      obtain ⟨b92, hb92_⟩ : ∃ b_, b_ = w86.heap.size := ⟨_, rfl⟩
      obtain ⟨w93, hw93_⟩ : ∃ w_, w_ = w86.alloc (.cells (List.toArray x91) 27) := ⟨_, rfl⟩
      have h := h b92 w93 hb92_ hw93_
      refine DL.execS (listed' := #[T,T,T,T,T,T,F]) 5 rfl (by kernel_rfl) rfl trivial rfl (OpW.buildSliceE (vs := [(0, aggv x91)]) (cs := x91) (by rfl) (fillOne mkz_47 (by simp) (by decide) (by decide) hl_) hb92_ hw93_ ?_)
      have hx94 : Ext w85 w93 := by rw [hw93_]; exact Ext.alloc hx87 _
      refine ⟨(fun _ _ => hx94), ?_⟩
      refine DL.execS (listed' := #[T,T,T,T,T,T,T]) 6 rfl (by kernel_rfl) rfl trivial rfl (OpW.callR (al := [.pointer x90, Sl.v ⟨some ⟨b92, 0, none⟩, 1, 1⟩]) Try.func37 fb_37 fn_37 rfl h (fun x95 w96 h => ?_))
      refine ⟨(fun h_ => absurd h_ (by decide)), ?_⟩
      refine DL.done (by kernel_rfl) ?_
      refine CW.region ?_
      refine RL.opS trivial rfl (OpW.move (v := .pointer p0) rfl ?_)
      obtain ⟨x97, h1, h2, h⟩ := h
      refine RL.opS trivial rfl (OpW.loadA agg_27 rfl h1 h2 ?_)
      obtain ⟨hl_, ho_, h⟩ := h
      obtain ⟨b98, hb98_⟩ : ∃ b_, b_ = w96.heap.size := ⟨_, rfl⟩
      obtain ⟨w99, hw99_⟩ : ∃ w_, w_ = w96.alloc (.cells (List.toArray x97) 27) := ⟨_, rfl⟩
      have h := h b98 w99 hb98_ hw99_
      refine RL.opS trivial rfl (OpW.buildSliceE (vs := [(0, aggv x97)]) (cs := x97) (by rfl) (fillOne mkz_47 (by simp) (by decide) (by decide) hl_) hb98_ hw99_ ?_)
      obtain ⟨a100, ha101, h⟩ := h
      refine RL.opS trivial rfl (OpW.nilCheck (a := a100) (congrArg Value.pointer ha101) ?_)
      refine RL.opS trivial rfl (OpW.fieldAddr field_54_2 rfl ?_)
      refine RL.opS trivial rfl (OpW.fieldAddr (off := 0) field_52_0 rfl ?_)
      refine RL.opS trivial rfl (OpW.fieldAddr field_49_2 rfl ?_)
      obtain ⟨u_, h1, h2, h⟩ := h
      obtain ⟨w102, hw102_⟩ : ∃ w_, w_ = w99.setCell (Addr.add (Addr.add (Addr.add a100 2) 0) 2) (Sl.v ⟨some ⟨b98, 0, none⟩, 1, 1⟩) := ⟨_, rfl⟩
      have h := h w102 hw102_
      refine RL.opN trivial (OpW.store1E (v := Sl.v ⟨some ⟨b98, 0, none⟩, 1, 1⟩) size_47 rfl rfl rfl h1 h2 hw102_ ?_)
      refine RL.nil ?_
      exact ⟨(0, 0), ⟨rfl, rfl, rfl⟩, h⟩
     ·have h := hc hb72; clear ha hc
      refine CW.seq ?_
      refine CW.region ?_
      refine RL.opS trivial rfl (OpW.move (v := .pointer p0) rfl ?_)
      obtain ⟨a103, ha104, h⟩ := h
      refine RL.opS trivial rfl (OpW.nilCheck (a := a103) (congrArg Value.pointer ha104) ?_)
      refine RL.opS trivial rfl (OpW.fieldAddr (off := 0) field_54_0 rfl ?_)
      obtain ⟨x105, h1, h⟩ := h
      refine RL.opS trivial rfl (OpW.load1 (v := .pointer x105) one_31 rfl h1 ?_)
      refine RL.opS trivial rfl (OpW.callR (al := [.pointer x105]) Try.func27 fb_27 fn_27 rfl h (fun x106 w107 h => ?_))
      refine RL.nil ?_
      refine CW.seq ?_
      refine CW.region ?_
      refine RL.opS trivial rfl (OpW.move (v := .pointer p0) rfl ?_)
      obtain ⟨a108, ha109, h⟩ := h
      refine RL.opS trivial rfl (OpW.nilCheck (a := a108) (congrArg Value.pointer ha109) ?_)
      refine RL.opS trivial rfl (OpW.fieldAddr field_54_2 rfl ?_)
      refine RL.opS trivial rfl (OpW.fieldAddr (off := 0) field_52_0 rfl ?_)
      refine RL.opS trivial rfl (OpW.fieldAddr field_49_4 rfl ?_)
      obtain ⟨u_, h1, h2, h⟩ := h
      obtain ⟨w110, hw110_⟩ : ∃ w_, w_ = w107.setCell (Addr.add (Addr.add (Addr.add a108 2) 0) 4) (.bool false) := ⟨_, rfl⟩
      have h := h w110 hw110_
      refine RL.opN trivial (OpW.store1E (v := .bool false) size_4 rfl rfl rfl h1 h2 hw110_ ?_)
      refine RL.nil ?_
      refine CW.seq ?_
      refine CW.region ?_
      refine RL.opS trivial rfl (OpW.move (v := .pointer p0) rfl ?_)
      refine RL.opS trivial rfl (OpW.move (v := .int .i64 p2) rfl ?_)
      refine RL.opS trivial rfl (OpW.callR (al := [.pointer p0, .int .i64 p2]) Try.func25 fb_25 fn_25 rfl h (fun x111 w112 h => ?_))
      refine RL.opS trivial rfl (OpW.assign (v := .bool x111) rfl ?_)
      refine RL.nil ?_
      refine CW.ret ?_
      exact ret_intro (res1 rfl rfl) ⟨x111, rfl, h⟩
end Go.Proofs.Ytagkcbbbdlmcjaa
end
section
/- One thing done to both journals: they answer the same. -/
namespace Go.Proofs.Ytagkcbbbdlmcjaa
open Go.Lift Go.Lift.Disk Go.Lift.Crc Go.Lift.Wal Go.RowKit
theorem Both.like {w0 w : World} {pd bb q n frm room k : Nat} {D : Dk} (h : Both w0 w pd bb q n frm room k D) : Calls Try.prog 43 #[.pointer (some ⟨q, 0, none⟩)] w (Ret r43 fun x w' => x = true ∧ Ext w w') := by
 obtain ⟨lptr, cs, J, plx, hB, hA, hJw, hor⟩ := h.ex
 have hcl := hA.len
 obtain ⟨c0, c1, c2, c7, c8, c9, c10, c11, c12, cj⟩ := bC_cell hcl hB
 apply s43_calls
 refine ⟨_, rfl, lptr, by rw [add_plain]; exact c1, ?_⟩
 rcases hor with ⟨rfl, hW⟩ | ⟨rfl, _, _⟩
 ·refine ⟨fun h => absurd h (by simp), fun _ => ?_⟩
  intro w5 hw5
  have hx5 : Ext w w5 := by subst hw5; exact Ext.drew _
  refine ⟨_, rfl, lp plx, by rw [add_plain]; exact c1, _, rfl, (room : Int), by rw [add_plain, add_plain]; exact c8, _, rfl, J.data, by rw [add_plain, add_plain]; exact c10, ?_⟩
  refine cR_of (room_ok (hW.ext hx5)) ?_
  rintro x16 w17 ⟨rfl, hx17⟩
  have hx17' := hx5.trans hx17
  refine ⟨hx17', ?_⟩
  have h1 := hJw.hroom
  have h2 := hJw.hdata
  rw [w64_eq (by omega) (by omega)]
  refine jn_of fun k1 hk1 => ⟨fun _ => ?_, fun h => absurd h (by simp)⟩
  refine ⟨_, rfl, lp plx, by rw [add_plain]; exact c1, _, rfl, (J.count : Int), by rw [add_plain, add_plain]; exact c11, ?_⟩
  refine cR_of (len_ok (hW.ext hx17')) ?_
  rintro x27 w28 ⟨rfl, rfl⟩
  refine ⟨hx17', ?_⟩
  rw [decide_eq_true rfl, hk1]
  refine jn_of fun k2 hk2 => ⟨fun _ => ?_, fun h => absurd h (by simp)⟩
  refine ⟨_, rfl, lp plx, by rw [add_plain]; exact c1, _, rfl, J.broken, by rw [add_plain, add_plain]; exact c12, ?_⟩
  refine cR_of (broken_ok (hW.ext hx17')) ?_
  rintro x43 w44 ⟨rfl, rfl⟩
  refine ⟨hx17', ?_⟩
  rw [beq_self_eq_true, hk2]
  refine jn_of fun k3 hk3 => ⟨fun _ => ?_, fun h => absurd h (by simp)⟩
  obtain ⟨ss, sp, sf, hcs, _⟩ := id hA
  have c5 : w.cell? ⟨q, 2 + 0 + 3, none⟩ = some (.int .i64 (D.changes : Int)) := by
   have := c2 3 (.int .i64 (D.changes : Int)) (by rw [hcs]; rfl)
   rw [add_plain] at this
   exact this
  refine ⟨_, rfl, dp pd, by rw [add_plain]; exact c0, _, rfl, (D.changes : Int), by rw [add_plain, add_plain, add_plain]; exact c5, ?_⟩
  refine cR_of (changes_ok (h.disk.ext hx17')) ?_
  rintro x59 w60 ⟨rfl, rfl⟩
  refine ⟨hx17', ?_⟩
  rw [decide_eq_true rfl, hk3]
  exact ⟨rfl, hx17'⟩
 ·exact ⟨fun _ => ⟨rfl, Ext.refl _⟩, fun h => absurd h (by simp)⟩
theorem Both.later {w0 w w' : World} {pd bb q n frm room k : Nat} {D : Dk} (h : Both w0 w pd bb q n frm room k D) (hx : Ext w w') : Both w0 w' pd bb q n frm room k D := by
 obtain ⟨lptr, cs, J, plx, hB, hA, hJw, hor⟩ := h.ex
 refine ⟨h.play, h.ext.trans hx, h.hq, h.disk.ext hx, lptr, cs, J, plx, hB.ext hx, hA.ext hx, hJw, ?_⟩
 rcases hor with ⟨h1, h2⟩ | h2
 ·exact .inl ⟨h1, h2.ext hx⟩
 ·exact .inr h2
theorem Both.more {w0 w : World} {pd bb q n frm room k m : Nat} {D : Dk} (h : Both w0 w pd bb q n frm room k D) (hm : k ≤ m) : Both w0 w pd bb q n frm room m D :=
 ⟨play_mono h.play hm, h.ext, h.hq, h.disk, h.ex⟩
theorem play_lay (n frm : Nat) (A : List UInt8) : ∀ (f : Nat) {k : Nat} {D : Dk} (i : Nat), Play n k D → Play n (k + f) (layF f D frm A i).1
 | 0, k, D, i, h => h
 | f + 1, k, D, i, h => by
  unfold layF
  split
  ·exact play_mono h (by omega)
  ·have hw := play_write h ((frm + 2 + i : Nat) : Int) (padB A i)
   split
   ·have := play_lay n frm A f (i + 1) hw
    rw [Nat.add_assoc, Nat.add_comm 1 f] at this
    exact this
   ·exact play_mono hw (by omega)
theorem play_add {n k frm room : Nat} {D : Dk} {L : Lg} {l : List (List UInt8)} (h : Play n k D) : Play n (k + (room / 512 + 5)) (addD D L frm room l).1 := by
 have h0 := play_mono h (show k ≤ k + (room / 512 + 5) by omega)
 unfold addD
 split
 ·exact h0
 ·split
  ·exact h0
  ·split
   ·exact h0
   ·rename_i A hg
    have hA := (gather_len _ _ _ hg).2
    split
    ·exact h0
    ·have hl : Play n (k + (A.length / 512 + 1)) (layF (A.length / 512 + 1) D frm A (L.data.length / 512)).1 := play_lay n frm A _ _ h
     have hh : Play n (k + (A.length / 512 + 1) + 3) (addHead (layF (A.length / 512 + 1) D frm A (L.data.length / 512)) frm (L.seq + 1) A.length).1 := by
      unfold addHead
      split
      ·exact play_mono hl (by omega)
      ·have hf := play_flush hl
       split
       ·exact play_mono hf (by omega)
       ·exact play_mono (play_head hf frm (L.seq + 1) A.length) (by omega)
     have h1 := play_mono hh (show k + (A.length / 512 + 1) + 3 ≤ k + (room / 512 + 5) by omega)
     split <;> exact h1
theorem play_reset {n k frm : Nat} {D : Dk} {L : Lg} (h : Play n k D) : Play n (k + 2) (resetD D L frm).1 := by
 have h0 := play_mono h (show k ≤ k + 2 by omega)
 have hh := play_head h frm (L.seq + 1) 0
 unfold resetD
 split
 ·exact h0
 ·split
  ·exact h0
  ·split <;> exact hh
theorem bC_disk {pd frm room seq count : Nat} {data : List UInt8} {br : Bool} {l : Option Addr} {cs cs' : List Value} (hl : cs.length = 5) (hl' : cs'.length = 5) :
  splice (bC pd l (jc cs frm room seq data count br)) 2 cs' = bC pd l (jc cs' frm room seq data count br) := by
 obtain ⟨a, b, c, d, e, rfl⟩ := list5 hl
 obtain ⟨a', b', c', d', e', rfl⟩ := list5 hl'
 rfl
theorem bC_down {pd frm room seq count : Nat} {data : List UInt8} {br : Bool} {l : Option Addr} {ss sp sf : Sl} {c : Int} {d d' : Bool} :
  (bC pd l (jc (rc ss sp sf c d) frm room seq data count br)).set 6 (.bool d') = bC pd l (jc (rc ss sp sf c d') frm room seq data count br) := rfl
theorem bC_falls {pd frm room seq count : Nat} {data : List UInt8} {br : Bool} {l : Option Addr} {ss sp sf s : Sl} {c : Int} {d : Bool} :
  (bC pd l (jc (rc ss sp sf c d) frm room seq data count br)).set 4 s.v = bC pd l (jc (rc ss sp s c d) frm room seq data count br) := rfl
theorem RAt.upIt {w : World} {B : Nat → Prop} {ss sp sf : Sl} {D : Dk} (h : RX w B ss sp sf D) : RAt w B (rc ss sp sf D.changes false) D.up :=
 ⟨ss, sp, sf, rfl, ⟨h.sure, h.pend, h.falls, h.f1, h.f2, h.f3⟩⟩
theorem Both.step {w0 w : World} {pd bb q n frm blocks k : Nat} {D : Dk} (h : Both w0 w pd bb q n frm (roomOf blocks) k D) (h3 : 3 ≤ blocks) (hfit : frm + blocks ≤ n) (hn : n ≤ 4096) (hb7 : blocks ≤ 7) (hk : k < 80000)
  (o : OpJ) (ho : o.Ok w0) (htl : o.texts.length ≤ 6) (hts : ∀ s ∈ o.texts, s.length ≤ 3000) :
  Calls Try.prog 26 #[.pointer (some ⟨q, 0, none⟩), aggv o.cells, .int .i64 (blocks : Int)] w (Ret r26 fun x w' => x = true ∧ ∃ D', Both w0 w' pd bb q n frm (roomOf blocks) (k + 20) D') := by
 obtain ⟨hpd, hpq, hbb, hbq, hpdl, hbbl, hql⟩ := h.lt
 have hq := h.hq
 have hwf := h.disk.wf
 have hP := h.play
 have hPl := hP.len
 have hrm : roomOf blocks ≤ 2560 := by unfold roomOf; omega
 obtain ⟨lptr, cs, J, plx, hBq, hA, hJw, hor⟩ := id h.ex
 have hcl := hA.len
 have hqF : ¬ Foot pd bb q := by rintro (e | e) <;> omega
 -- a journal's pointer lies far
 have hplx : plx < w.heap.size ∧ (lptr = lp plx → w0.heap.size ≤ plx ∧ plx ≠ q) := by
  rcases hor with ⟨e, hW⟩ | ⟨e, _, e2⟩
  ·obtain ⟨a, b, c, d, _⟩ := hW.lt
   exact ⟨d, fun _ => ⟨a.1, a.2⟩⟩
  ·refine ⟨by rw [e2]; omega, fun e' => by rw [e] at e'; cases e'⟩
 obtain ⟨X, hX⟩ : ∃ X : Nat → Prop, X = fun k => Foot pd bb k ∨ (k = plx ∧ k ≠ q) := ⟨_, rfl⟩
 have hXq : ¬ X q := by
  rw [hX]
  rintro (e | e)
  ·exact hqF e
  ·exact e.2 rfl
 have hXb : ∀ {g : Nat}, w.heap.size ≤ g → ¬ X g := by
  intro g hg
  rw [hX]
  rintro ((e | e) | e)
  ·omega
  ·omega
  ·have := hplx.1; have := e.1; omega
 have hXF : ∀ k, Foot pd bb k → X k := fun k hk => by rw [hX]; exact .inl hk
 have hBX : ∀ k, (¬ Foot pd bb k ∧ k ≠ q ∧ k ≠ plx) → ¬ X k := by
  intro k hk
  rw [hX]
  rintro (e | e)
  ·exact hk.1 e
  ·exact hk.2.2 e.1
 have hBn : ∀ {v : World}, w.heap.size ≤ v.heap.size → ∀ k, v.heap.size ≤ k → (¬ Foot pd bb k ∧ k ≠ q ∧ k ≠ plx) := by
  intro v hv k hk
  have := hplx.1
  exact ⟨by rintro (e | e) <;> omega, by omega, by omega⟩
 apply s26_calls
 intro b1 w2 hb1 hw2
 have hx2 : Ext w w2 := Ext.new hw2
 have hB2 : Blk w2 b1 29 o.cells := Blk.new hb1 hw2
 have hwb1 : w.heap.size ≤ b1 := by rw [hb1]; exact Nat.le_refl _
 have hqb1 : q ≠ b1 := by omega
 have h2 := h.later hx2
 have hBq2 := hBq.ext hx2
 have hA2 := hA.ext hx2
 have hx02 := h2.ext
 have hs2 := hx2.size
 obtain ⟨c0, c1, c2, c7, c8, c9, c10, c11, c12, cj⟩ := bC_cell hcl hBq2
 refine jn_of fun k1 hk1 => ?_
 -- they tell the same of themselves
 have tail : ∀ (e : Int) (v : World) (D' : Dk), Both w0 v pd bb q n frm (roomOf blocks) (k + 20) D' → k1 (e, e) v := by
  intro e v D' hv
  rw [hk1]
  refine jn_of fun k2 hk2 => ⟨fun _ => ?_, fun h => absurd h (by simp)⟩
  refine cR_of hv.like ?_
  rintro x120 w121 ⟨rfl, hx121⟩
  rw [hk2]
  exact ⟨rfl, D', hv.later hx121⟩
 -- both are opened again
 have again : ∀ (v : World) (E : Dk) (l' : Option Addr) (cs' : List Value), Play n k E → Ext w0 v → DAt v (fun k => w0.heap.size ≤ k ∧ k ≠ q) pd bb E → Blk v q 54 (bC pd l' (jc cs' frm (roomOf blocks) J.seq J.data J.count J.broken)) → RAt v (fun k => ¬ Foot pd bb k ∧ k ≠ q ∧ k ≠ plx) cs' E →
   cR Try.prog 25 r25 #[.pointer (some ⟨q, 0, none⟩), .int .i64 (blocks : Int)] v fun x w' => x = true ∧ ∃ D', Both w0 w' pd bb q n frm (roomOf blocks) (k + 20) D' := by
  intro v E l' cs' hPE hxv hDv hBv hAv
  refine cR_of (Both.openIt hPE hxv hq hDv hBv (hAv.mono fun k _ hk => ⟨hk.1, hk.2.1⟩) h3 hfit hn (by omega)) ?_
  rintro x w' ⟨rfl, hb⟩
  exact ⟨rfl, _, hb.more (by omega)⟩
 -- what both did is put down
 have finish : ∀ (R : Dk × Lg × Int) (v13 v24 : World) (ys : List Value), Ext w0 v13 → Ext v13 v24 → Blk v13 q 54 (bC pd lptr (jc cs frm (roomOf blocks) J.seq J.data J.count J.broken)) → DAt v13 (fun k => w0.heap.size ≤ k ∧ k ≠ q) pd bb R.1 → LgWf R.2.1 frm (roomOf blocks) →
   ((lptr = lp plx ∧ WAt v13 (fun k => w0.heap.size ≤ k ∧ k ≠ q) pd bb plx frm (roomOf blocks) R.1 R.2.1) ∨ (lptr = none ∧ R.2.1.broken = true ∧ plx = q)) → JAt v24 (fun k => ¬ Foot pd bb k ∧ k ≠ q ∧ k ≠ plx) ys R.1 frm (roomOf blocks) R.2.1 → Play n (k + 20) R.1 →
   stA 11 (Addr.add ⟨q, 0, none⟩ 2) ys v24 fun v27 => k1 (R.2.2, R.2.2) v27 := by
  intro R v13 v24 ys hx013 hx24 hBq13 hD13 hw13 hor13 hJ24 hPR
  rw [add_plain]
  refine stA_blk (hBq13.ext hx24) hJ24.len (by rw [bC_len (jc_len hcl)]; decide) hJ24.one fun v27 hB27 hf27 => ?_
  rw [Nat.zero_add, bC_splice (jc_len hcl) hJ24.len] at hB27
  obtain ⟨cs', e', hA'⟩ := hJ24
  rw [e'] at hB27
  refine tail _ _ R.1 ⟨hPR, hf27.ext (hx013.trans hx24) fun k _ e => by rw [e]; exact hq, hq, (hD13.ext hx24).fr hf27 fun k hk e => hk.2 e, lptr, cs', R.2.1, plx, hB27, hA'.foot hf27 fun k hk => hk.2.1, hw13, ?_⟩
  rcases hor13 with ⟨a1, g, sd, a2⟩ | a
  ·exact .inl ⟨a1, g, sd, (a2.ext hx24).fr hf27 fun k hk e => hk.2 e⟩
  ·exact .inr a
 refine ⟨o.kind, by rw [add_plain]; exact hB2.cell rfl, ?_⟩
 refine ⟨fun _ => ?_, fun _ => ⟨fun _ => ?_, fun _ => ⟨fun _ => ?_, fun _ => ⟨fun _ => ?_, fun _ => ?_⟩⟩⟩⟩
 · -- Add
  intro w6 hw6
  have hx6 : Ext w2 w6 := by subst hw6; exact Ext.drew _
  refine ⟨_, rfl, lptr, by rw [add_plain]; exact c1, o.ts, by rw [add_plain]; exact hB2.cell rfl, ?_⟩
  have hx06 := hx02.trans hx6
  have hs6 := hx6.size
  obtain ⟨R, hR⟩ : ∃ R, R = addD D J frm (roomOf blocks) o.texts := ⟨_, rfl⟩
  -- the program's answer
  have hprog : Calls Try.prog 20 #[.pointer lptr, o.ts.v] w6 (Ret r20 fun x w' => x = R.2.2 ∧ Fr X w6 w' ∧ Ext w0 w' ∧ DAt w' (fun k => w0.heap.size ≤ k ∧ k ≠ q) pd bb R.1 ∧ LgWf R.2.1 frm (roomOf blocks) ∧
    ((lptr = lp plx ∧ WAt w' (fun k => w0.heap.size ≤ k ∧ k ≠ q) pd bb plx frm (roomOf blocks) R.1 R.2.1) ∨ (lptr = none ∧ R.2.1.broken = true ∧ plx = q))) := by
   rcases hor with ⟨e0, hW⟩ | ⟨e0, hbr, hpq'⟩
   ·obtain ⟨z1, z2⟩ := hplx.2 e0
    rw [e0]
    refine Ret.mono (add_ok ((hW.ext hx2).ext hx6) (fun k hk => ⟨Nat.le_trans hx06.size hk, by omega⟩) (hP.bnd (by omega)) o.ts o.texts (ho.ext hx06).texts (by omega) fun s hs => Nat.le_trans (hts s hs) (by decide)) ?_
    rintro x w' ⟨e1, e2, e3⟩
    rw [← hR] at e1 e2
    refine ⟨e1, e3.mono fun k _ hk => ?_, wfootExt e3 hx06 hpd hbb z1, e2.disk, e2.wf, .inl ⟨rfl, e2⟩⟩
    rw [hX]
    rcases hk with hk | hk
    ·exact .inl hk
    ·exact .inr ⟨hk, by rw [hk]; exact z2⟩
   ·have e : R = (D, J, 3) := by rw [hR]; unfold addD; rw [if_pos hbr]
    rw [e0]
    refine Ret.mono (add_nil o.ts) ?_
    rintro x w' ⟨e1, rfl⟩
    rw [e]
    exact ⟨e1, Fr.refl _, hx06, h2.disk.ext hx6, hJw, .inr ⟨rfl, hbr, hpq'⟩⟩
  refine cR_of hprog ?_
  rintro x12 w13 ⟨rfl, hf13, hx013, hD13, hw13, hor13⟩
  have hBq13 := (hBq2.ext hx6).fr hf13 hXq
  have hB13 := (hB2.ext hx6).fr hf13 (hXb hwb1)
  have hA13 := (hA2.ext hx6).foot hf13 hBX
  have hs13 := hf13.size
  obtain ⟨d0, d1, d2, d7, d8, d9, d10, d11, d12, dj⟩ := bC_cell hcl hBq13
  intro w14 hw14
  have hx14 : Ext w13 w14 := by subst hw14; exact Ext.drew _
  refine ⟨_, rfl, jc cs frm (roomOf blocks) J.seq J.data J.count J.broken, jc_len hcl, by rw [add_plain]; exact dj, o.ts, by rw [add_plain]; exact hB13.cell rfl, ?_⟩
  refine cR_of (texts_ok w14 o.ts o.texts (ho.ext (hx013.trans hx14)).texts (by omega)) ?_
  rintro x20 w21 ⟨ho20, hl20, hx21⟩
  have hx21' := hx14.trans hx21
  refine ⟨hx21', ?_⟩
  have hs21 := hx21'.size
  refine cR_of (radd_ok (J := J) ⟨cs, rfl, hA13.ext hx21'⟩ hwf (hP.bnd (by omega)) (hBn (by omega)) hJw x20 o.texts ⟨hl20, ho20.at⟩ (by omega) fun s hs => Nat.le_trans (hts s hs) (by decide)) ?_
  rintro ⟨x23, e23⟩ w24 ⟨he23, hJ24, hx24⟩
  simp only at he23 hJ24
  rw [← hR] at he23 hJ24
  subst he23
  refine ⟨_, rfl, ?_⟩
  exact finish R w13 w24 x23 hx013 (hx21'.trans hx24) hBq13 hD13 hw13 hor13 hJ24 (by rw [hR]; exact play_mono (play_add hP) (by omega))
 · -- Reset
  refine ⟨_, rfl, lptr, by rw [add_plain]; exact c1, ?_⟩
  obtain ⟨R, hR⟩ : ∃ R, R = resetD D J frm := ⟨_, rfl⟩
  have hprog : Calls Try.prog 21 #[.pointer lptr] w2 (Ret r21 fun x w' => x = R.2.2 ∧ Fr X w2 w' ∧ Ext w0 w' ∧ DAt w' (fun k => w0.heap.size ≤ k ∧ k ≠ q) pd bb R.1 ∧ LgWf R.2.1 frm (roomOf blocks) ∧
    ((lptr = lp plx ∧ WAt w' (fun k => w0.heap.size ≤ k ∧ k ≠ q) pd bb plx frm (roomOf blocks) R.1 R.2.1) ∨ (lptr = none ∧ R.2.1.broken = true ∧ plx = q))) := by
   rcases hor with ⟨e0, hW⟩ | ⟨e0, hbr, hpq'⟩
   ·obtain ⟨z1, z2⟩ := hplx.2 e0
    rw [e0]
    refine Ret.mono (reset_ok (hW.ext hx2) (fun k hk => ⟨Nat.le_trans hx02.size hk, by omega⟩) (hP.bnd (by omega))) ?_
    rintro x w' ⟨e1, e2, e3⟩
    rw [← hR] at e1 e2
    refine ⟨e1, e3.mono fun k _ hk => ?_, wfootExt e3 hx02 hpd hbb z1, e2.disk, e2.wf, .inl ⟨rfl, e2⟩⟩
    rw [hX]
    rcases hk with hk | hk
    ·exact .inl hk
    ·exact .inr ⟨hk, by rw [hk]; exact z2⟩
   ·have e : R = (D, J, 3) := by rw [hR]; unfold resetD; rw [if_pos hbr]
    rw [e0]
    refine Ret.mono (reset_nil w2) ?_
    rintro x w' ⟨e1, rfl⟩
    rw [e]
    exact ⟨e1, Fr.refl _, hx02, h2.disk, hJw, .inr ⟨rfl, hbr, hpq'⟩⟩
  refine cR_of hprog ?_
  rintro x12 w13 ⟨rfl, hf13, hx013, hD13, hw13, hor13⟩
  have hBq13 := hBq2.fr hf13 hXq
  have hA13 := hA2.foot hf13 hBX
  have hs13 := hf13.size
  obtain ⟨d0, d1, d2, d7, d8, d9, d10, d11, d12, dj⟩ := bC_cell hcl hBq13
  refine ⟨_, rfl, jc cs frm (roomOf blocks) J.seq J.data J.count J.broken, jc_len hcl, by rw [add_plain]; exact dj, ?_⟩
  refine cR_of (rreset_ok (J := J) ⟨cs, rfl, hA13⟩ hwf (hP.bnd (by omega)) (hBn (by omega)) (by omega) hJw.hseq) ?_
  rintro ⟨x23, e23⟩ w24 ⟨he23, hJ24, hx24⟩
  simp only at he23 hJ24
  rw [← hR] at he23 hJ24
  subst he23
  refine ⟨_, rfl, ?_⟩
  exact finish R w13 w24 x23 hx013 hx24 hBq13 hD13 hw13 hor13 hJ24 (by rw [hR]; exact play_mono (play_reset hP) (by omega))
 · -- the power fails, and comes again
  intro w43 hw43
  have hx43 : Ext w2 w43 := by subst hw43; exact Ext.drew _
  refine ⟨_, rfl, dp pd, by rw [add_plain]; exact c0, fallOf o.fall, rfl, by rw [add_plain]; exact hB2.at rfl, ?_⟩
  refine cR_of (crash_ok (h2.disk.ext hx43) o.fall ho.keep) ?_
  rintro x49 w50 ⟨h50, hf50⟩
  have hBq50 := (hBq2.ext hx43).fr hf50 hqF
  obtain ⟨d0, _⟩ := bC_cell hcl hBq50
  refine ⟨_, rfl, dp pd, by rw [add_plain]; exact d0, ?_⟩
  refine cR_of (up_ok h50) ?_
  rintro x54 w55 ⟨_, h55, hf55⟩
  have hff : Fr (Foot pd bb) w2 w55 := ((Fr.of hx43).trans hf50).trans hf55
  have hBq55 := hBq2.fr hff hqF
  have hB55 := hB2.fr hff (by rintro (e | e) <;> omega)
  have hA55 := hA2.foot hff fun k hk => hk.1
  have hx055 := footExt hff hx02 hpd hbb
  have hs55 := hff.size
  obtain ⟨g0, g1, g2, _⟩ := bC_cell hcl hBq55
  intro w56 hw56
  have hx56 : Ext w55 w56 := by subst hw56; exact Ext.drew _
  refine ⟨_, rfl, cs, hcl, by rw [add_plain, add_plain]; exact g2, fallOf o.fall, rfl, by rw [add_plain]; exact hB55.at rfl, ?_⟩
  have hs56 := hx56.size
  refine cR_of (rcrash_ok w56 cs D (hA55.ext hx56) hwf (hBn (by omega)) o.fall ho.keep) ?_
  rintro x62 w63 ⟨hA63, hx63⟩
  have hxx := hx56.trans hx63
  refine ⟨_, rfl, ?_⟩
  show stA _ _ _ _ _
  rw [add_plain, add_plain]
  refine stA_blk (hBq55.ext hxx) hA63.len (by rw [bC_len (jc_len hcl)]; decide) hA63.one fun w66 hB66 hf66 => ?_
  have hB66 : Blk w66 q 54 (splice (bC pd lptr (jc cs frm (roomOf blocks) J.seq J.data J.count J.broken)) 2 x62) := hB66
  rw [bC_disk hcl hA63.len] at hB66
  have hA66 := hA63.foot hf66 fun k hk => hk.2.1
  obtain ⟨ss, sp, sf, e62, hRX⟩ := hA66
  rw [e62] at hB66
  refine ⟨_, rfl, ?_⟩
  show st1 _ _ _ _
  rw [add_plain, add_plain, add_plain]
  refine st1_blk hB66 (by show 6 < 13; decide) fun w69 hB69 hf69 => ?_
  have hB69 : Blk w69 q 54 (bC pd lptr (jc (rc ss sp sf (D.crash o.fall).changes false) frm (roomOf blocks) J.seq J.data J.count J.broken)) := hB69
  have hfq := hf66.trans hf69
  refine again w69 (D.crash o.fall).up lptr _ (play_up (play_crash hP o.fall)) (hfq.ext (hx055.trans hxx) fun k _ e => by rw [e]; exact hq) ((h55.ext hxx).fr hfq fun k hk e => hk.2 e) hB69 ?_
  exact (RAt.upIt hRX).foot hf69 fun k hk => hk.2.1
 · -- a fall is planned
  refine ⟨fallOf o.fall, rfl, by rw [add_plain]; exact hB2.at rfl, rfl, fall_one _, fun b74 w75 hb74 hw75 => ?_⟩
  have hx75 : Ext w2 w75 := Ext.new hw75
  have hB75 : Blk w75 b74 27 (fallOf o.fall) := Blk.new hb74 hw75
  have hwb74 : w.heap.size ≤ b74 := by rw [hb74]; exact hs2
  have hq74 : q ≠ b74 := by omega
  intro w76 hw76
  have hx76 : Ext w75 w76 := by subst hw76; exact Ext.drew _
  obtain ⟨d0, _⟩ := bC_cell hcl (hBq2.ext hx75)
  refine ⟨_, rfl, dp pd, by rw [add_plain]; exact d0, o.fall.1, by rw [add_plain]; exact hB75.cell rfl, ?_⟩
  refine cR_of (changes_ok ((h2.disk.ext hx75).ext hx76)) ?_
  rintro x82 w83 ⟨rfl, rfl⟩
  refine ⟨hx76, ?_⟩
  show st1 _ _ _ _
  rw [add_plain]
  refine st1_blk (hB75.ext hx76) (by simp [fallOf]) fun w85 hB85 hf85 => ?_
  obtain ⟨f', hf'⟩ : ∃ f' : Fall, f' = (IntKind.i64.wrap ((D.changes : Int) + IntKind.i64.wrap (Int.tmod (IntKind.u64.wrap o.fall.1) 9)), o.fall.2.1, o.fall.2.2) := ⟨_, rfl⟩
  have hB85 : Blk w85 b74 27 (fallOf f') := by rw [hf']; exact hB85
  have hkf : 0 ≤ f'.2.1 ∧ f'.2.1 < 18446744073709551616 := by rw [hf']; exact ho.keep
  clear hf'
  have hx85 : Ext w w85 := hf85.ext ((hx2.trans hx75).trans hx76) fun k _ e => by rw [e]; exact hwb74
  have hBq85 := hBq.ext hx85
  intro w86 hw86
  have hx86 : Ext w85 w86 := by subst hw86; exact Ext.drew _
  obtain ⟨g0, _⟩ := bC_cell hcl hBq85
  refine ⟨_, rfl, dp pd, by rw [add_plain]; exact g0, fallOf f', rfl, hB85.at rfl, rfl, fall_one _, fun b92 w93 hb92 hw93 => ?_⟩
  have hx93 : Ext w86 w93 := Ext.new hw93
  have hxw93 := (hx85.trans hx86).trans hx93
  have hs93 := hxw93.size
  have hfc : fallC [f'] = fallOf f' := by simp [fallC]
  have hx093 := h.ext.trans hxw93
  have hplan : Calls Try.prog 37 #[.pointer (dp pd), (⟨some ⟨b92, 0, none⟩, 1, 1⟩ : Sl).v] w93 (Ret r37 fun _ w' => Fr (Foot pd bb) w93 w' ∧ DAt w' (fun k => w0.heap.size ≤ k ∧ k ≠ q) pd bb (Dk.plan D [f']) ∧
    ((lptr = lp plx ∧ WAt w' (fun k => w0.heap.size ≤ k ∧ k ≠ q) pd bb plx frm (roomOf blocks) (Dk.plan D [f']) J) ∨ (lptr = none ∧ J.broken = true ∧ plx = q))) := by
   have hat : AtO w93 (⟨some ⟨b92, 0, none⟩, 1, 1⟩ : Sl).a (fallC [f']) := by rw [hfc]; exact At.new hb92 hw93
   rcases hor with ⟨e0, hW⟩ | ⟨e0, hbr, hpq'⟩
   ·obtain ⟨g, sd, hWX⟩ := hW.ext hxw93
    have hgl := hWX.glt
    have hpl93 := hWX.lt.1
    refine Ret.mono (plan_ok hWX.disk ⟨some ⟨b92, 0, none⟩, 1, 1⟩ [f'] rfl hat (by intro h; cases h) (by simp) (fun k hk => ⟨⟨⟨Nat.le_trans hx093.size hk, by omega⟩, by omega⟩, by omega⟩) (by intro z hz; rw [List.mem_singleton.1 hz]; exact hkf)) ?_
    rintro x w' ⟨a1, a2⟩
    exact ⟨a2, a1.mono fun k _ hk => hk.1.1, .inl ⟨e0, g, sd, hWX.setDisk a1 a2⟩⟩
   ·refine Ret.mono (plan_ok (h.disk.ext hxw93) ⟨some ⟨b92, 0, none⟩, 1, 1⟩ [f'] rfl hat (by intro h; cases h) (by simp) (fun k hk => ⟨Nat.le_trans hx093.size hk, by omega⟩) (by intro z hz; rw [List.mem_singleton.1 hz]; exact hkf)) ?_
    rintro x w' ⟨a1, a2⟩
    exact ⟨a2, a1, .inr ⟨e0, hbr, hpq'⟩⟩
  refine cR_of hplan ?_
  rintro x95 w96 ⟨hf96, hD96, hor96⟩
  have hB96 := ((hB85.ext hx86).ext hx93).fr hf96 (by rintro (e | e) <;> omega)
  have hBq96 := (hBq.ext hxw93).fr hf96 hqF
  have hA96 := (hA.ext hxw93).foot hf96 fun k hk => hk.1
  have hs96 := hf96.size
  refine ⟨fallOf f', rfl, hB96.at rfl, rfl, fall_one _, fun b98 w99 hb98 hw99 => ?_⟩
  have hx99 : Ext w96 w99 := Ext.new hw99
  have hB98 : Blk w99 b98 27 (fallOf f') := Blk.new hb98 hw99
  obtain ⟨ss, sp, sf, ecs, hRX⟩ := hA96.ext hx99
  have hBq99 := hBq96.ext hx99
  rw [ecs] at hBq99
  have hwb98 : w.heap.size ≤ b98 := by omega
  refine ⟨_, rfl, ?_⟩
  show st1 _ _ _ _
  rw [add_plain, add_plain, add_plain]
  refine st1_blk hBq99 (by show 4 < 13; decide) fun w102 hB102 hf102 => ?_
  have hB102 : Blk w102 q 54 (bC pd lptr (jc (rc ss sp ⟨some ⟨b98, 0, none⟩, 1, 1⟩ D.changes D.down) frm (roomOf blocks) J.seq J.data J.count J.broken)) := hB102
  have hfa : FallsAt w99 ⟨some ⟨b98, 0, none⟩, 1, 1⟩ [f'] := ⟨rfl, Nat.le_refl _, by rw [hfc]; exact hB98.at rfl, (fun h => by cases h), by intro z hz; rw [List.mem_singleton.1 hz]; exact hkf⟩
  have hfar : Far (fun k => ¬ Foot pd bb k ∧ k ≠ q ∧ k ≠ plx) ⟨some ⟨b98, 0, none⟩, 1, 1⟩ := by
   intro _ a ha
   cases ha
   exact hBn (v := w) (Nat.le_refl _) b98 hwb98
  have hA99 : RAt w99 (fun k => ¬ Foot pd bb k ∧ k ≠ q ∧ k ≠ plx) (rc ss sp ⟨some ⟨b98, 0, none⟩, 1, 1⟩ D.changes D.down) (Dk.plan D [f']) := ⟨ss, sp, _, rfl, plan_rat hRX hfa hfar⟩
  have hx096 := footExt hf96 hx093 hpd hbb
  refine tail 0 w102 (Dk.plan D [f']) ⟨play_mono (play_plan hP _) (by omega), hf102.ext (hx096.trans hx99) fun k _ e => by rw [e]; exact hq, hq, (hD96.ext hx99).fr hf102 fun k hk e => hk.2 e, lptr, _, J, plx, hB102, hA99.foot hf102 fun k hk => hk.2.1, hJw, ?_⟩
  rcases hor96 with ⟨a1, g, sd, a2⟩ | a
  ·exact .inl ⟨a1, g, sd, (a2.ext hx99).fr hf102 fun k hk e => hk.2 e⟩
  ·exact .inr a
 · -- it is opened
  refine ⟨_, rfl, dp pd, by rw [add_plain]; exact c0, ?_⟩
  refine cR_of (up_ok h2.disk) ?_
  rintro x106 w107 ⟨_, h107, hf107⟩
  have hBq107 := hBq2.fr hf107 hqF
  have hA107 := hA2.foot hf107 fun k hk => hk.1
  obtain ⟨ss, sp, sf, ecs, hRX⟩ := hA107
  rw [ecs] at hBq107
  refine ⟨_, rfl, ?_⟩
  show st1 _ _ _ _
  rw [add_plain, add_plain, add_plain]
  refine st1_blk hBq107 (by show 6 < 13; decide) fun w110 hB110 hf110 => ?_
  have hB110 : Blk w110 q 54 (bC pd lptr (jc (rc ss sp sf D.changes false) frm (roomOf blocks) J.seq J.data J.count J.broken)) := hB110
  refine again w110 D.up lptr _ (play_up hP) (hf110.ext (footExt hf107 hx02 hpd hbb) fun k _ e => by rw [e]; exact hq) (h107.fr hf110 fun k hk e => hk.2 e) hB110 ?_
  exact (RAt.upIt hRX).foot hf110 fun k hk => hk.2.1
end Go.Proofs.Ytagkcbbbdlmcjaa
end
section
/- From a row's reading of the journal's scripts to facts on their cells. -/
namespace Go.Proofs.Ytagkcbbbdlmcjaa
open Go.Lift Go.Lift.Disk Go.RowKit Go.ChangeShapes Go.WideShapes Go.ChangeAt Go.Deep
instance : Inhabited OpJ := ⟨⟨0, nilSl, [], default⟩⟩
section
variable {H : Type} {enc : TypeId × Value → H} {w : World} {base : Nat} {held : Bool}
set_option maxRecDepth 100000 in
theorem open_opj {fuel : Nat} {cs : List Value} {x : DataW H × List MemPlace} (hl : cs.length = 5) (h : DataW.trod enc Try.prog w base (fun _ => true) held fuel 29 cs = some x) : ∃ o : OpJ, cs = o.cells ∧ o.Ok w := by
 obtain ⟨xs, n, _, _, _, hxl, hf⟩ := DataW.trod_struct Try.underlying29 h
 match cs, hl with
 | [c0, c1, c2, c3, c4], _ =>
  have f0 := hf 0 _ rfl
  have f1 := hf 1 _ rfl
  have f2 := hf 2 _ rfl
  rw [List.getElem?_eq_getElem (by rw [hxl]; decide)] at f0 f1 f2
  obtain ⟨n0, e0, _, w0⟩ := DataW.trod_int Try.underlying3 f0
  have k3 : Try.prog.cellsOf 3 = 1 := by kernel_rfl
  have k22 : Try.prog.cellsOf 22 = 1 := by kernel_rfl
  have k27 : Try.prog.cellsOf 27 = 3 := by kernel_rfl
  have hl2 : (([c0, c1, c2, c3, c4].drop 2).take (Try.prog.cellsOf 27)).length = 3 := by rw [k27]; rfl
  obtain ⟨s1, e1, _, _, l1, hp1, _⟩ := Go.Lift.open_parts Try.underlying22 Try.underlying39 Try.underlying5 (by kernel_rfl) (by kernel_rfl) f1
  obtain ⟨fl, e2, hk⟩ := open_fall hl2 f2
  have g0 : ([c0, c1, c2, c3, c4].drop 0).take (Try.prog.cellsOf 3) = _ := e0; clear e0
  have g1 : ([c0, c1, c2, c3, c4].drop 1).take (Try.prog.cellsOf 22) = _ := e1; clear e1
  have g2 : ([c0, c1, c2, c3, c4].drop 2).take (Try.prog.cellsOf 27) = _ := e2; clear e2
  rw [k3] at g0
  rw [k22] at g1
  rw [k27] at g2
  simp only [List.drop_zero, List.drop_succ_cons, List.take_succ_cons, List.take_zero, List.cons.injEq, and_true] at g0 g1
  simp only [fallOf, List.drop_zero, List.drop_succ_cons, List.take_succ_cons, List.take_zero, List.cons.injEq, and_true] at g2
  obtain ⟨g2, g2b, g2c⟩ := g2
  subst g0; subst g1; subst g2; subst g2b; subst g2c
  exact ⟨⟨n0, s1, l1, fl⟩, rfl, hp1, hk⟩
theorem open_30 {fuel : Nat} {cs : List Value} {x : DataW H × List MemPlace} (h : DataW.trod enc Try.prog w base (fun _ => true) held fuel 30 cs = some x) : ∃ s : Sl, cs = [s.v] ∧ s.len ≤ s.cap ∧ s.cap ≤ maxLen ∧ ∃ l, OpsJ w s l := by
 have cO : Try.prog.cellsOf 29 = 5 := by kernel_rfl
 rcases open_slice Try.underlying30 h with ⟨rfl, _⟩ | ⟨a, len, cap, m, n, D, Pl, rfl, _, hl, hm, hmm, _, hx⟩
 ·exact ⟨nilSl, rfl, Nat.le_refl _, Nat.zero_le _, [], rfl, rfl, by simp⟩
 ·have hmc : m = cap := by simpa using hmm
  obtain ⟨f, hf⟩ := choose_fn (p := fun i (o : OpJ) => At w (a.add (i * 5)) o.cells ∧ o.Ok w) (q := fun i => i < len) (fun i hi => by
   obtain ⟨cs', h1, h2⟩ := hx i (by omega)
   rw [cO] at h1
   obtain ⟨h3, h4⟩ := at_cells h1
   obtain ⟨f, rfl, hk⟩ := open_opj h4 h2
   exact ⟨f, h3, hk⟩)
  refine ⟨⟨some a, len, cap⟩, rfl, hl, hm, (List.range len).map f, by simp, ?_, ?_⟩
  ·have := at_rows (w := w) (a := a) (n := 5) (fun i => (f i).cells) (fun _ => rfl) len fun i hi => (hf i hi).1
   show At w a _
   rw [List.flatMap_map]
   exact this
  ·intro g hg
   obtain ⟨i, hi, rfl⟩ := List.mem_map.1 hg
   exact (hf i (List.mem_range.1 hi)).2
end
end Go.Proofs.Ytagkcbbbdlmcjaa
end
section
/- The typed readings of the functions, and that the program meets each: written by gen.py (a program of this session). -/
namespace Go.Proofs.Ytagkcbbbdlmcjaa
open Go.Lift
set_option maxRecDepth 100000 in
set_option maxHeartbeats 4000000 in
theorem s4_calls (K : Bool → World → Prop) (p0 : Int) (p1 : Bool) (p2 : Sl) (w : World) (h : s4 K p0 p1 p2 w) :
  Calls Try.prog 4 #[.int .i64 p0, .bool p1, Sl.v p2] w (Ret r4 K) := by
 unfold s4 at h
 refine calls_of_CW (n := 98) Try.func4 rfl rfl rfl ?_
 refine CW.seq ?_
 refine CW.region ?_
 refine RL.opS trivial rfl (OpW.assign (v := .bool false) rfl ?_)
 refine RL.nil ?_
 refine CW.seq ?_
 refine CW.seq ?_
 refine CW.region ?_
 refine RL.opS trivial rfl (OpW.callR (al := []) Try.func13 fb_13 fn_13 rfl h (fun x1 w2 h => ?_))
 refine RL.opS trivial rfl (OpW.not rfl ?_)
 refine RL.opS trivial rfl (OpW.move (v := .bool (!x1)) rfl ?_)
 refine jn_elim h ?_; clear h; intro k90 hk91 h
 refine RL.joinAt (A := Bool) 5 (fun s7 ρ => ρ 23 = .bool s7 ∧ ρ 0 = .int .i64 p0 ∧ ρ 1 = .bool p1 ∧ ρ 2 = Sl.v p2) k90 ?_ ?_
 ·rintro s7 ρ w8 ⟨e9, e10, e11, e12⟩ h
  subst hk91
  dsimp only [List.drop]
  refine RL.nil ?_
  obtain ⟨ha, hc⟩ := h
  refine CW.cond (b := s7) e9 (fun hb13 => ?_) (fun hb13 => ?_)
  ·have h := ha hb13; clear ha hc
   refine CW.seq ?_
   refine CW.region ?_
   refine RL.opS trivial rfl (OpW.callR (al := []) Try.func13 fb_13 fn_13 rfl h (fun x14 w15 h => ?_))
   refine RL.opS trivial rfl (OpW.assign (v := .bool x14) rfl ?_)
   refine RL.nil ?_
   refine CW.ret ?_
   exact ret_intro (res1 rfl rfl) ⟨x14, rfl, h⟩
  ·have h := hc hb13; clear ha hc
   refine CW.skip ?_
   refine CW.seq ?_
   refine CW.region ?_
   refine RL.opS trivial rfl (OpW.assign (v := .int .i64 0) rfl ?_)
   refine RL.nil ?_
   refine jn_elim h ?_; clear h; intro k88 hk89 h
   refine CW.seqJ (A := Int) (fun s18 ρ => ρ 7 = .int .i64 s18 ∧ ρ 0 = .int .i64 p0 ∧ ρ 2 = Sl.v p2) k88 ?_ ?_
   ·rintro s18 ρ w19 ⟨e20, e21, e22⟩ h
    subst hk89
    refine CW.seq ?_
    refine CW.region ?_
    refine RL.opS trivial rfl (OpW.move (v := .int .i64 p0) e21 ?_)
    refine RL.opS trivial rfl (OpW.move (v := .int .i64 s18) e20 ?_)
    refine RL.opS trivial rfl (OpW.bin (k := .i64) (a := p0) (b := s18) (v := .int .i64 (IntKind.i64.wrap (p0 + s18))) rfl rfl rfl ?_)
    refine RL.opS trivial rfl (OpW.callR (al := [.int .i64 (IntKind.i64.wrap (p0 + s18))]) Try.func15 fb_15 fn_15 rfl h (fun x23 w24 h => ?_))
    refine RL.opS trivial rfl (OpW.move (v := .tuple #[.pointer x23.1, .int .i64 x23.2]) rfl ?_)
    refine RL.opS trivial rfl (OpW.extract (v := .pointer x23.1) rfl rfl ?_)
    refine RL.opS trivial rfl (OpW.extract (v := .int .i64 x23.2) rfl rfl ?_)
    refine RL.opS trivial rfl (OpW.assign (v := .pointer x23.1) rfl ?_)
    refine RL.opS trivial rfl (OpW.assign (v := .int .i64 x23.2) rfl ?_)
    refine RL.nil ?_
    refine CW.seq ?_
    refine CW.region ?_
    refine RL.opS trivial rfl (OpW.move (v := .pointer x23.1) rfl ?_)
    refine RL.opS trivial rfl (OpW.move (v := .int .i64 p0) e21 ?_)
    refine RL.opS trivial rfl (OpW.move (v := .int .i64 s18) e20 ?_)
    refine RL.opS trivial rfl (OpW.bin (k := .i64) (a := p0) (b := s18) (v := .int .i64 (IntKind.i64.wrap (p0 + s18))) rfl rfl rfl ?_)
    refine RL.opS trivial rfl (OpW.callR (al := [.int .i64 (IntKind.i64.wrap (p0 + s18))]) Try.func24 fb_24 fn_24 rfl h (fun x25 w26 h => ?_))
    refine RL.opS trivial rfl (OpW.move (v := .int .i64 s18) e20 ?_)
    obtain ⟨hl0_, h⟩ := h
    refine RL.opS trivial rfl (OpW.buildL (vs := [(0, aggv x25), (1, .int .i64 s18)]) (cs := (x25 ++ ([.int .i64 s18] : List Value) ++ ([Value.int .i64 0] : List Value) ++ ([Value.int .u64 0] : List Value) ++ ([str []] : List Value) ++ ([Value.int .i64 0] : List Value) ++ ([Value.bool false] : List Value))) (by rfl) (fun w_ => (fun y0_ hy0_ => by obtain ⟨c0_0, c0_1, c0_2, c0_3, c0_4, rfl⟩ := list5 hy0_; kernel_rfl : ∀ (y0_ : List Value), y0_.length = 5 → (Instr.build 52 ([(0, aggv y0_), (1, .int .i64 s18)]).toArray).run Try.prog w_ = .ok (aggv (y0_ ++ ([.int .i64 s18] : List Value) ++ ([Value.int .i64 0] : List Value) ++ ([Value.int .u64 0] : List Value) ++ ([str []] : List Value) ++ ([Value.int .i64 0] : List Value) ++ ([Value.bool false] : List Value))) w_) x25 hl0_) ?_)
    obtain ⟨hl1_, h⟩ := h
    refine RL.opS trivial rfl (OpW.buildL (vs := [(0, .pointer x23.1), (2, aggv (x25 ++ ([.int .i64 s18] : List Value) ++ ([Value.int .i64 0] : List Value) ++ ([Value.int .u64 0] : List Value) ++ ([str []] : List Value) ++ ([Value.int .i64 0] : List Value) ++ ([Value.bool false] : List Value)))]) (cs := (([.pointer x23.1] : List Value) ++ ([Value.pointer none] : List Value) ++ (x25 ++ ([.int .i64 s18] : List Value) ++ ([Value.int .i64 0] : List Value) ++ ([Value.int .u64 0] : List Value) ++ ([str []] : List Value) ++ ([Value.int .i64 0] : List Value) ++ ([Value.bool false] : List Value)))) (by rfl) (fun w_ => (fun y1_ hy1_ => by obtain ⟨c1_0, c1_1, c1_2, c1_3, c1_4, c1_5, c1_6, c1_7, c1_8, c1_9, c1_10, rfl⟩ := list11 hy1_; kernel_rfl : ∀ (y1_ : List Value), y1_.length = 11 → (Instr.build 54 ([(0, .pointer x23.1), (2, aggv y1_)]).toArray).run Try.prog w_ = .ok (aggv (([.pointer x23.1] : List Value) ++ ([Value.pointer none] : List Value) ++ y1_)) w_) (x25 ++ ([.int .i64 s18] : List Value) ++ ([Value.int .i64 0] : List Value) ++ ([Value.int .u64 0] : List Value) ++ ([str []] : List Value) ++ ([Value.int .i64 0] : List Value) ++ ([Value.bool false] : List Value)) hl1_) ?_)
    obtain ⟨b27, hb27_⟩ : ∃ b_, b_ = w26.heap.size := ⟨_, rfl⟩
    obtain ⟨w28, hw28_⟩ : ∃ w_, w_ = w26.alloc (.cells (List.toArray (([.pointer x23.1] : List Value) ++ ([Value.pointer none] : List Value) ++ (x25 ++ ([.int .i64 s18] : List Value) ++ ([Value.int .i64 0] : List Value) ++ ([Value.int .u64 0] : List Value) ++ ([str []] : List Value) ++ ([Value.int .i64 0] : List Value) ++ ([Value.bool false] : List Value)))) 54) := ⟨_, rfl⟩
    have h := h b27 w28 hb27_ hw28_
    refine RL.opS trivial rfl (OpW.boxE (cs := (([.pointer x23.1] : List Value) ++ ([Value.pointer none] : List Value) ++ (x25 ++ ([.int .i64 s18] : List Value) ++ ([Value.int .i64 0] : List Value) ++ ([Value.int .u64 0] : List Value) ++ ([str []] : List Value) ++ ([Value.int .i64 0] : List Value) ++ ([Value.bool false] : List Value)))) (rfl) hb27_ hw28_ ?_)
    refine RL.opS trivial rfl (OpW.assign (v := .pointer (some ⟨b27, 0, none⟩)) rfl ?_)
    refine RL.nil ?_
    refine CW.seq ?_
    refine CW.seq ?_
    refine CW.region ?_
    refine RL.opS trivial rfl (OpW.move (v := .pointer (some ⟨b27, 0, none⟩)) rfl ?_)
    refine RL.opS trivial rfl (OpW.move (v := .int .i64 p0) e21 ?_)
    refine RL.opS trivial rfl (OpW.callR (al := [.pointer (some ⟨b27, 0, none⟩), .int .i64 p0]) Try.func25 fb_25 fn_25 rfl h (fun x29 w30 h => ?_))
    refine RL.opS trivial rfl (OpW.not rfl ?_)
    refine RL.nil ?_
    obtain ⟨ha, hc⟩ := h
    refine CW.cond (b := (!x29)) rfl (fun hb31 => ?_) (fun hb31 => ?_)
    ·have h := ha hb31; clear ha hc
     refine CW.seq ?_
     refine CW.region ?_
     refine RL.opS trivial rfl (OpW.assign (v := .bool false) rfl ?_)
     refine RL.nil ?_
     refine CW.ret ?_
     exact ret_intro (res1 rfl rfl) ⟨false, rfl, h⟩
    ·have h := hc hb31; clear ha hc
     refine CW.skip ?_
     refine CW.seq ?_
     refine CW.seq ?_
     refine CW.region ?_
     refine RL.opS trivial rfl (OpW.move (v := Sl.v p2) e22 ?_)
     refine RL.opS trivial rfl (OpW.len (s := p2) slice_30 rfl ?_)
     refine RL.opS trivial rfl (OpW.move (v := .int .i64 0) rfl ?_)
     refine RL.nil ?_
     refine CW.block ?_
     obtain ⟨I86, mu87, hI, hs⟩ := h
     refine CW.loop (σ := Int) (fun s32 ρ => ρ 48 = .int .i64 s32 ∧ ρ 0 = .int .i64 p0 ∧ ρ 7 = .int .i64 s18 ∧ ρ 10 = .pointer (some ⟨b27, 0, none⟩) ∧ ρ 46 = Sl.v p2 ∧ ρ 47 = .int .i64 (p2.len : Int)) I86 mu87 0 ⟨rfl, e21, e20, rfl, rfl, rfl⟩ hI ?_
     rintro s32 ρ w33 ⟨e35, e36, e37, e38, e39, e40⟩ hI
     have h := hs s32 w33 hI
     clear hs hI
     refine CW.seq ?_
     refine CW.region ?_
     refine RL.opS trivial rfl (OpW.bin (k := .i64) (a := s32) (b := (p2.len : Int)) (v := .bool (decide (s32 < (p2.len : Int)))) e35 e40 rfl ?_)
     refine RL.nil ?_
     refine CW.seq ?_
     obtain ⟨ha, hc⟩ := h
     refine CW.cond (b := (decide (s32 < (p2.len : Int)))) rfl (fun hb41 => ?_) (fun hb41 => ?_)
     ·have h := ha hb41; clear ha hc
      refine CW.skip ?_
      refine CW.seq ?_
      refine CW.block ?_
      refine CW.seq ?_
      refine CW.region ?_
      obtain ⟨a42_, a42, h1, h2, h3, h4, h⟩ := h
      refine RL.opS trivial rfl (OpW.indexE (a' := a42) slice_30 e39 e35 h1 h2 h3 h4 ?_)
      obtain ⟨x44, h1, h2, h⟩ := h
      refine RL.opS trivial rfl (OpW.loadA agg_29 rfl h1 h2 ?_)
      obtain ⟨hl_b45, ho_b45, h⟩ := h
      obtain ⟨b45, hb45_⟩ : ∃ b_, b_ = w33.heap.size := ⟨_, rfl⟩
      obtain ⟨w46, hw46_⟩ : ∃ w_, w_ = w33.alloc (.cells (List.toArray x44) 29) := ⟨_, rfl⟩
      have h := h b45 w46 hb45_ hw46_
      refine RL.opS trivial rfl (OpW.allocZ (b := b45) zero_29 hb45_ ?_)
      refine RL.opN trivial (OpW.storeF (zs := [Value.int .i64 0, Value.slice none 0 0, Value.int .i64 0, Value.int .u64 0, Value.int .i64 0]) (cs := x44) size_29 rfl rfl hl_b45 (by decide) ho_b45 hb45_ hw46_ ?_)
      refine RL.nil ?_
      refine CW.seq ?_
      refine CW.region ?_
      refine RL.opS trivial rfl (OpW.move (v := .pointer (some ⟨b27, 0, none⟩)) e38 ?_)
      obtain ⟨x47, h1, h2, h⟩ := h
      refine RL.opS trivial rfl (OpW.loadA agg_29 rfl h1 h2 ?_)
      refine RL.opS trivial rfl (OpW.move (v := .int .i64 p0) e36 ?_)
      refine RL.opS trivial rfl (OpW.callR (al := [.pointer (some ⟨b27, 0, none⟩), aggv x47, .int .i64 p0]) Try.func26 fb_26 fn_26 rfl h (fun x48 w49 h => ?_))
      refine RL.opS trivial rfl (OpW.not rfl ?_)
      refine RL.nil ?_
      obtain ⟨ha, hc⟩ := h
      refine CW.cond (b := (!x48)) rfl (fun hb50 => ?_) (fun hb50 => ?_)
      ·have h := ha hb50; clear ha hc
       refine CW.seq ?_
       refine CW.region ?_
       refine RL.opS trivial rfl (OpW.assign (v := .bool false) rfl ?_)
       refine RL.nil ?_
       refine CW.ret ?_
       exact ret_intro (res1 rfl rfl) ⟨false, rfl, h⟩
      ·have h := hc hb50; clear ha hc
       refine CW.skip ?_
       refine CW.region ?_
       refine RL.opS trivial rfl (OpW.bin (k := .i64) (a := s32) (b := 1) (v := .int .i64 (IntKind.i64.wrap (s32 + 1))) e35 rfl rfl ?_)
       refine RL.opS trivial rfl (OpW.move (v := .int .i64 (IntKind.i64.wrap (s32 + 1))) rfl ?_)
       refine RL.nil ?_
       exact ⟨(IntKind.i64.wrap (s32 + 1)), ⟨rfl, e36, e37, e38, e39, e40⟩, h⟩
     ·have h := hc hb41; clear ha hc
      refine CW.exit ?_
      refine CW.seq ?_
      refine CW.region ?_
      refine RL.opS trivial rfl (OpW.move (v := .pointer (some ⟨b27, 0, none⟩)) e38 ?_)
      refine RL.opS trivial rfl (OpW.nilCheck rfl ?_)
      refine RL.opS trivial rfl (OpW.fieldAddr (off := 0) field_54_0 rfl ?_)
      obtain ⟨x51, h1, h⟩ := h
      refine RL.opS trivial rfl (OpW.load1 (v := .pointer x51) one_31 rfl h1 ?_)
      refine RL.opS trivial rfl (OpW.callR (al := [.pointer x51]) Try.func27 fb_27 fn_27 rfl h (fun x52 w53 h => ?_))
      refine RL.nil ?_
      refine CW.seq ?_
      refine CW.region ?_
      refine RL.opS trivial rfl (OpW.move (v := .pointer (some ⟨b27, 0, none⟩)) e38 ?_)
      refine RL.opS trivial rfl (OpW.nilCheck rfl ?_)
      refine RL.opS trivial rfl (OpW.fieldAddr field_54_2 rfl ?_)
      refine RL.opS trivial rfl (OpW.fieldAddr (off := 0) field_52_0 rfl ?_)
      refine RL.opS trivial rfl (OpW.fieldAddr field_49_4 rfl ?_)
      obtain ⟨u_, h1, h2, h⟩ := h
      obtain ⟨w54, hw54_⟩ : ∃ w_, w_ = w53.setCell (Addr.add (Addr.add (Addr.add ⟨b27, 0, none⟩ 2) 0) 4) (.bool false) := ⟨_, rfl⟩
      have h := h w54 hw54_
      refine RL.opN trivial (OpW.store1E (v := .bool false) size_4 rfl rfl rfl h1 h2 hw54_ ?_)
      refine RL.nil ?_
      refine CW.seq ?_
      refine CW.seq ?_
      refine CW.region ?_
      refine RL.opS trivial rfl (OpW.move (v := .int .i64 p0) e36 ?_)
      refine RL.opS trivial rfl (OpW.move (v := .int .i64 s18) e37 ?_)
      refine RL.opS trivial rfl (OpW.bin (k := .i64) (a := p0) (b := s18) (v := .int .i64 (IntKind.i64.wrap (p0 + s18))) rfl rfl rfl ?_)
      refine RL.opS trivial rfl (OpW.move (v := .int .i64 0) rfl ?_)
      refine RL.nil ?_
      refine CW.block ?_
      obtain ⟨I84, mu85, hI, hs⟩ := h
      refine CW.loop (σ := Int) (fun s55 ρ => ρ 71 = .int .i64 s55 ∧ ρ 10 = .pointer (some ⟨b27, 0, none⟩) ∧ ρ 70 = .int .i64 (IntKind.i64.wrap (p0 + s18))) I84 mu85 0 ⟨rfl, e38, rfl⟩ hI ?_
      rintro s55 ρ w56 ⟨e58, e59, e60⟩ hI
      have h := hs s55 w56 hI
      clear hs hI
      refine CW.seq ?_
      refine CW.region ?_
      refine RL.opS trivial rfl (OpW.bin (k := .i64) (a := s55) (b := (IntKind.i64.wrap (p0 + s18))) (v := .bool (decide (s55 < (IntKind.i64.wrap (p0 + s18))))) e58 e60 rfl ?_)
      refine RL.nil ?_
      refine CW.seq ?_
      obtain ⟨ha, hc⟩ := h
      refine CW.cond (b := (decide (s55 < (IntKind.i64.wrap (p0 + s18))))) rfl (fun hb61 => ?_) (fun hb61 => ?_)
      ·have h := ha hb61; clear ha hc
       refine CW.skip ?_
       refine CW.seq ?_
       refine CW.block ?_
       refine CW.seq ?_
       refine CW.region ?_
       refine RL.opS trivial rfl (OpW.move (v := .int .i64 s55) e58 ?_)
       refine RL.opS trivial rfl (OpW.assign (v := .int .i64 s55) rfl ?_)
       refine RL.nil ?_
       refine CW.seq ?_
       refine CW.region ?_
       refine RL.opS trivial rfl (OpW.move (v := .pointer (some ⟨b27, 0, none⟩)) e59 ?_)
       refine RL.opS trivial rfl (OpW.nilCheck rfl ?_)
       refine RL.opS trivial rfl (OpW.fieldAddr (off := 0) field_54_0 rfl ?_)
       obtain ⟨x62, h1, h⟩ := h
       refine RL.opS trivial rfl (OpW.load1 (v := .pointer x62) one_31 rfl h1 ?_)
       refine RL.opS trivial rfl (OpW.move (v := .int .i64 s55) rfl ?_)
       refine RL.opS trivial rfl (OpW.callR (al := [.pointer x62, .int .i64 s55]) Try.func28 fb_28 fn_28 rfl h (fun x63 w64 h => ?_))
       refine RL.opS trivial rfl (OpW.move (v := .tuple #[Sl.v x63.1, .int .i64 x63.2]) rfl ?_)
       refine RL.opS trivial rfl (OpW.extract (v := Sl.v x63.1) rfl rfl ?_)
       refine RL.opS trivial rfl (OpW.extract (v := .int .i64 x63.2) rfl rfl ?_)
       refine RL.opS trivial rfl (OpW.assign (v := Sl.v x63.1) rfl ?_)
       refine RL.opS trivial rfl (OpW.assign (v := .int .i64 x63.2) rfl ?_)
       refine RL.nil ?_
       refine CW.seq ?_
       obtain ⟨w65, hw65_⟩ : ∃ w_, w_ = w64.drew := ⟨_, rfl⟩
       have h := h w65 hw65_
       have hx66 : Ext w64 w65 := by rw [hw65_]; exact Ext.drew _
       refine CW.draws (m := 14) (listed := #[F,F,F,F,F,F,F,F,F,F,F,F,F,F]) mixed [0, 1, 2, 3, 4, 5, 6, 7, 8, 9, 10, 11, 12, 13] (Ext w64) rfl rfl ?_
       rw [← hw65_]
       refine DL.takeP (listed' := #[T,F,F,F,F,F,F,F,F,F,F,F,F,F]) (v := .int .i64 x63.2) 0 rfl rfl (by kernel_rfl) rfl trivial rfl (fun w_ K_ h_ => OpW.move (v := .int .i64 x63.2) rfl h_) ?_
       refine DL.takeP (listed' := #[T,T,F,F,F,F,F,F,F,F,F,F,F,F]) (v := .bool (!decide (x63.2 = 0))) 1 rfl rfl (by kernel_rfl) rfl trivial rfl (fun w_ K_ h_ => OpW.bin (k := .i64) (a := x63.2) (b := 0) (v := .bool (!decide (x63.2 = 0))) rfl rfl rfl h_) ?_
       refine DL.takeP (listed' := #[T,T,T,F,F,F,F,F,F,F,F,F,F,F]) (v := .bool (!decide (x63.2 = 0))) 2 rfl rfl (by kernel_rfl) rfl trivial rfl (fun w_ K_ h_ => OpW.move (v := .bool (!decide (x63.2 = 0))) rfl h_) ?_
       refine jn_elim h ?_; clear h; intro k82 hk83 h
       refine DL.cut (A := Bool) (fun s74 ρ => ρ 96 = .bool s74 ∧ ρ 10 = .pointer (some ⟨b27, 0, none⟩) ∧ ρ 70 = .int .i64 (IntKind.i64.wrap (p0 + s18)) ∧ ρ 71 = .int .i64 s55) k82 0 #[T,T,T,T,T,T,T,T,T,T,T,T,T,T] ?_ ?_
       ·rintro s74 ρ w75 ⟨e77, e78, e79, e80⟩ h
        subst hk83
        refine DL.done (by kernel_rfl) ?_
        obtain ⟨ha, hc⟩ := h
        refine CW.cond (b := s74) e77 (fun hb81 => ?_) (fun hb81 => ?_)
        ·have h := ha hb81; clear ha hc
         refine CW.seq ?_
         refine CW.region ?_
         refine RL.opS trivial rfl (OpW.assign (v := .bool false) rfl ?_)
         refine RL.nil ?_
         refine CW.ret ?_
         exact ret_intro (res1 rfl rfl) ⟨false, rfl, h⟩
        ·have h := hc hb81; clear ha hc
         refine CW.skip ?_
         refine CW.region ?_
         refine RL.opS trivial rfl (OpW.bin (k := .i64) (a := s55) (b := 1) (v := .int .i64 (IntKind.i64.wrap (s55 + 1))) e80 rfl rfl ?_)
         refine RL.opS trivial rfl (OpW.move (v := .int .i64 (IntKind.i64.wrap (s55 + 1))) rfl ?_)
         refine RL.nil ?_
         exact ⟨(IntKind.i64.wrap (s55 + 1)), ⟨rfl, e78, e79⟩, h⟩
       ·intro hJJ67; clear hk83
        obtain ⟨ha, hc⟩ := h
        rcases Bool.eq_false_or_eq_true (!decide (x63.2 = 0)) with hb68 | hb68
        ·have h := ha hb68; clear ha hc
         refine DL.skipP (listed' := #[T,T,T,T,F,F,F,F,F,F,F,F,F,F]) 3 rfl (by kernel_rfl) rfl (notWanted_of rfl rfl hb68) rfl ?_
         refine DL.skipP (listed' := #[T,T,T,T,T,F,F,F,F,F,F,F,F,F]) 4 rfl (by kernel_rfl) rfl (notWanted_of rfl rfl hb68) rfl ?_
         refine DL.skipP (listed' := #[T,T,T,T,T,T,F,F,F,F,F,F,F,F]) 5 rfl (by kernel_rfl) rfl (notWanted_of rfl rfl hb68) rfl ?_
         refine DL.skipP (listed' := #[T,T,T,T,T,T,T,F,F,F,F,F,F,F]) 6 rfl (by kernel_rfl) rfl (notWanted_of rfl rfl hb68) rfl ?_
         refine DL.skipP (listed' := #[T,T,T,T,T,T,T,T,F,F,F,F,F,F]) 7 rfl (by kernel_rfl) rfl (notWanted_of rfl rfl hb68) rfl ?_
         refine DL.skipP (listed' := #[T,T,T,T,T,T,T,T,T,F,F,F,F,F]) 8 rfl (by kernel_rfl) rfl (notWanted_of rfl rfl hb68) rfl ?_
         refine DL.skipP (listed' := #[T,T,T,T,T,T,T,T,T,T,F,F,F,F]) 9 rfl (by kernel_rfl) rfl (notWanted_of rfl rfl hb68) rfl ?_
         refine DL.skipP (listed' := #[T,T,T,T,T,T,T,T,T,T,T,F,F,F]) 10 rfl (by kernel_rfl) rfl (notWanted_of rfl rfl hb68) rfl ?_
         refine DL.skipX (listed' := #[T,T,T,T,T,T,T,T,T,T,T,T,F,F]) 11 rfl (by kernel_rfl) rfl (notWanted_of rfl rfl hb68) rfl ?_
         refine DL.skipP (listed' := #[T,T,T,T,T,T,T,T,T,T,T,T,T,F]) 12 rfl (by kernel_rfl) rfl (notWanted_of rfl rfl hb68) rfl ?_
         refine DL.takeP (listed' := #[T,T,T,T,T,T,T,T,T,T,T,T,T,T]) (v := .bool true) 13 rfl rfl (by kernel_rfl) rfl trivial rfl (fun w_ K_ h_ => OpW.pick (b := true) (v := .bool true) (congrArg Value.bool hb68) rfl h_) ?_
         exact hJJ67 _ _ ⟨true, ⟨rfl, e59, e60, e58⟩, h⟩
        ·have h := hc hb68; clear ha hc
         refine DL.takeP (listed' := #[T,T,T,T,F,F,F,F,F,F,F,F,F,F]) (v := Sl.v x63.1) 3 rfl rfl (by kernel_rfl) rfl (wanted_of rfl rfl hb68) rfl (fun w_ K_ h_ => OpW.move (v := Sl.v x63.1) rfl h_) ?_
         obtain ⟨x69, h1, h2, h⟩ := h
         refine DL.takeK (listed' := #[T,T,T,T,T,F,F,F,F,F,F,F,F,F]) (v := str x69) 4 rfl rfl (by kernel_rfl) (by kernel_rfl) rfl (wanted_of rfl rfl hb68) rfl hx66 (fun w_ hS_ K_ h_ => OpW.b2s bsl_39 str_9 rfl h1 (hS_.atO h2) h_) ?_
         refine DL.takeP (listed' := #[T,T,T,T,T,T,F,F,F,F,F,F,F,F]) (v := .pointer (some ⟨b27, 0, none⟩)) 5 rfl rfl (by kernel_rfl) rfl (wanted_of rfl rfl hb68) rfl (fun w_ K_ h_ => OpW.move (v := .pointer (some ⟨b27, 0, none⟩)) e59 h_) ?_
         refine DL.takeP (listed' := #[T,T,T,T,T,T,T,F,F,F,F,F,F,F]) (v := .pointer (some ⟨b27, 0, none⟩)) 6 rfl rfl (by kernel_rfl) rfl (wanted_of rfl rfl hb68) rfl (fun w_ K_ h_ => OpW.nilCheck rfl h_) ?_
         refine DL.takeP (listed' := #[T,T,T,T,T,T,T,T,F,F,F,F,F,F]) (v := .pointer (some (Addr.add ⟨b27, 0, none⟩ 2))) 7 rfl rfl (by kernel_rfl) rfl (wanted_of rfl rfl hb68) rfl (fun w_ K_ h_ => OpW.fieldAddr field_54_2 rfl h_) ?_
         refine DL.takeP (listed' := #[T,T,T,T,T,T,T,T,T,F,F,F,F,F]) (v := .pointer (some (Addr.add (Addr.add ⟨b27, 0, none⟩ 2) 0))) 8 rfl rfl (by kernel_rfl) rfl (wanted_of rfl rfl hb68) rfl (fun w_ K_ h_ => OpW.fieldAddr (off := 0) field_52_0 rfl h_) ?_
         obtain ⟨x70, h1, h2, h⟩ := h
         refine DL.takeK (listed' := #[T,T,T,T,T,T,T,T,T,T,F,F,F,F]) (v := aggv x70) 9 rfl rfl (by kernel_rfl) (by kernel_rfl) rfl (wanted_of rfl rfl hb68) rfl hx66 (fun w_ hS_ K_ h_ => OpW.loadA agg_49 rfl h1 (hS_.at h2) h_) ?_
         refine DL.takeP (listed' := #[T,T,T,T,T,T,T,T,T,T,T,F,F,F]) (v := .int .i64 s55) 10 rfl rfl (by kernel_rfl) rfl (wanted_of rfl rfl hb68) rfl (fun w_ K_ h_ => OpW.move (v := .int .i64 s55) rfl h_) ?_
         refine DL.execS (listed' := #[T,T,T,T,T,T,T,T,T,T,T,T,F,F]) 11 rfl (by kernel_rfl) rfl (wanted_of rfl rfl hb68) rfl (OpW.callR (al := [aggv x70, .int .i64 s55]) Try.func29 fb_29 fn_29 rfl h (fun x71 w72 h => ?_))
         obtain ⟨hx73, h⟩ := h
         refine ⟨(fun _ _ => hx73), ?_⟩
         refine DL.takeP (listed' := #[T,T,T,T,T,T,T,T,T,T,T,T,T,F]) (v := .bool (!decide (x69 = x71))) 12 rfl rfl (by kernel_rfl) rfl (wanted_of rfl rfl hb68) rfl (fun w_ K_ h_ => OpW.strCmp (b := !decide (x69 = x71)) rfl rfl rfl h_) ?_
         refine DL.takeP (listed' := #[T,T,T,T,T,T,T,T,T,T,T,T,T,T]) (v := .bool (!decide (x69 = x71))) 13 rfl rfl (by kernel_rfl) rfl trivial rfl (fun w_ K_ h_ => OpW.pick (b := false) (v := .bool (!decide (x69 = x71))) (congrArg Value.bool hb68) rfl h_) ?_
         exact hJJ67 _ _ ⟨(!decide (x69 = x71)), ⟨rfl, e59, e60, e58⟩, h⟩
      ·have h := hc hb61; clear ha hc
       refine CW.exit ?_
       refine CW.seq ?_
       refine CW.region ?_
       refine RL.opS trivial rfl (OpW.assign (v := .bool true) rfl ?_)
       refine RL.nil ?_
       refine CW.ret ?_
       exact ret_intro (res1 rfl rfl) ⟨true, rfl, h⟩
   ·clear hk89
    refine CW.seq ?_
    refine CW.region ?_
    refine RL.opS trivial rfl (OpW.move (v := .bool p1) e11 ?_)
    refine RL.nil ?_
    obtain ⟨ha, hc⟩ := h
    refine CW.cond (b := p1) rfl (fun hb17 => ?_) (fun hb17 => ?_)
    ·have h := ha hb17; clear ha hc
     refine CW.region ?_
     refine RL.opS trivial rfl (OpW.assign (v := .int .i64 2) rfl ?_)
     refine RL.nil ?_
     exact ⟨2, ⟨rfl, e10, e12⟩, h⟩
    ·have h := hc hb17; clear ha hc
     refine CW.skip ?_
     exact ⟨0, ⟨rfl, e10, e12⟩, h⟩
 ·clear hk91
  dsimp only [List.take]
  obtain ⟨ha, hc⟩ := h
  rcases Bool.eq_false_or_eq_true (!x1) with hb3 | hb3
  ·have h := ha hb3; clear ha hc
   refine RL.skipS (notWanted_of rfl rfl hb3) rfl ?_
   refine RL.skipS (notWanted_of rfl rfl hb3) rfl ?_
   refine RL.skipS (notWanted_of rfl rfl hb3) rfl ?_
   refine RL.skipS (notWanted_of rfl rfl hb3) rfl ?_
   refine RL.opS trivial rfl (OpW.pick (b := true) (v := .bool true) (congrArg Value.bool hb3) rfl ?_)
   refine RL.nil ?_
   exact ⟨true, ⟨rfl, rfl, rfl, rfl⟩, h⟩
  ·have h := hc hb3; clear ha hc
   refine RL.opS (wanted_of rfl rfl hb3) rfl (OpW.move (v := .int .i64 p0) rfl ?_)
   refine RL.opS (wanted_of rfl rfl hb3) rfl (OpW.move (v := Sl.v p2) rfl ?_)
   refine RL.opS (wanted_of rfl rfl hb3) rfl (OpW.callR (al := [.int .i64 p0, Sl.v p2]) Try.func14 fb_14 fn_14 rfl h (fun x5 w6 h => ?_))
   refine RL.opS (wanted_of rfl rfl hb3) rfl (OpW.not rfl ?_)
   refine RL.opS trivial rfl (OpW.pick (b := false) (v := .bool (!x5)) (congrArg Value.bool hb3) rfl ?_)
   refine RL.nil ?_
   exact ⟨(!x5), ⟨rfl, rfl, rfl, rfl⟩, h⟩
end Go.Proofs.Ytagkcbbbdlmcjaa
end
section
/- WalPlays: whatever is added, emptied, opened again, wherever the power fails and whatever stays: each answer, each record that is found, and each block of the disk is the document's: the law answers true and leaves all that was there. -/
namespace Go.Proofs.Ytagkcbbbdlmcjaa
open Go.Lift Go.Lift.Disk Go.Lift.Crc Go.Lift.Wal Go.RowKit
theorem walPlays_ok (w : World) (n0 : Int) (_hw0 : (Lit.int .i64 n0).wf = true) (from_ : Bool) (p : Sl) (l : List OpJ) (h1 : OpsJ w p l) (hlc1 : p.len ≤ p.cap) (hcm1 : p.cap ≤ maxLen) :
  Calls Try.prog 4 #[.int .i64 n0, .bool from_, p.v] w (Ret r4 fun x w' => x = true ∧ Ext w w') := by
 apply s4_calls
 refine cR_of (lives4_ok w) ?_
 rintro x1 w2 ⟨rfl, hx2⟩
 refine jn_of fun k1 hk1 => ⟨fun h => absurd h (by decide), fun _ => ?_⟩
 refine cR_of (fits4_ok w2 n0 p l (h1.ext hx2)) ?_
 rintro x5 w8 ⟨hfit, hx8⟩
 have hxw8 := hx2.trans hx8
 rw [hk1]
 refine ⟨fun _ => cR_of (lives4_ok w8) fun x w' ⟨hx, hw⟩ => ⟨hx, hxw8.trans hw⟩, fun hf5 => ?_⟩
 obtain ⟨hn3, hn7, hl30, hall⟩ := hfit (by simpa using hf5)
 obtain ⟨m, rfl⟩ := Int.eq_ofNat_of_zero_le (show 0 ≤ n0 by omega)
 refine jn_of fun k2 hk2 => ?_
 have key : ∀ a : Nat, a ≤ 2 → k2 (a : Int) w8 := by
  intro a ha
  rw [hk2]
  have ea : IntKind.i64.wrap ((m : Int) + (a : Int)) = ((m + a : Nat) : Int) := by rw [w64_eq (by omega) (by omega)]; omega
  show cR _ _ _ _ _ _
  rw [ea]
  refine cR_of (new_ok w8 (m + a) (by omega) (by omega)) ?_
  rintro x23 w24 ⟨pd, bb, rfl, h24, hx24⟩
  obtain ⟨hpd, hbb, hpdl, hbbl⟩ := h24.lt
  have hpd : w8.heap.size ≤ pd := hpd
  have hbb : w8.heap.size ≤ bb := hbb
  refine cR_of (rnew_ok (B := fun k => ¬ Foot pd bb k) w24 (fun k hk => by rintro (e | e) <;> omega) (m + a) (by omega)) ?_
  rintro x25 w26 ⟨hA26, hx26⟩
  have hl25 := hA26.len
  have e11 : (x25 ++ ([.int .i64 (a : Int)] : List Value) ++ ([Value.int .i64 0] : List Value) ++ ([Value.int .u64 0] : List Value) ++ ([str []] : List Value) ++ ([Value.int .i64 0] : List Value) ++ ([Value.bool false] : List Value)) = jc x25 a 0 0 [] 0 false := jc_parts _ _ _ _ _ _ _
  rw [e11]
  refine ⟨hl25, jc_len hl25, fun q w28 hq hw28 => ?_⟩
  have hx28 : Ext w26 w28 := Ext.new hw28
  have hB28 : Blk w28 q 54 (bC pd none (jc x25 a 0 0 [] 0 false)) := Blk.new hq hw28
  have hx28' := hx26.trans hx28
  have hq8 : w8.heap.size ≤ q := by rw [hq]; exact (hx24.trans hx26).size
  have hq24 : w24.heap.size ≤ q := by rw [hq]; exact hx26.size
  have hql := hB28.lt
  have hD28 : DAt w28 (fun k => w8.heap.size ≤ k ∧ k ≠ q) pd bb (fresh (m + a)) := (h24.mono (base' := fun k => w8.heap.size ≤ k ∧ k ≠ q) fun k hk hu => ⟨hu, by omega⟩).ext hx28'
  have hA28 : RAt w28 (fun k => ¬ Foot pd bb k ∧ k ≠ q) x25 (fresh (m + a)) := (hA26.mono (B' := fun k => ¬ Foot pd bb k ∧ k ≠ q) fun k hk hu => ⟨hu, by omega⟩).ext hx28
  refine cR_of (Both.openIt (J := ⟨0, [], 0, false⟩) (play_fresh (m + a)) (hx24.trans hx28') hq8 hD28 hB28 hA28 (by omega) (Nat.le_of_eq (Nat.add_comm a m)) (by omega) (by decide)) ?_
  rintro x29 w30 ⟨rfl, hb30⟩
  refine ⟨fun h => absurd h (by simp), fun _ => ?_⟩
  have hp1 := h1.len
  refine ⟨fun s w' => ∃ (k : Nat) (D : Dk), k ≤ l.length ∧ s = (k : Int) ∧ Both w8 w' pd bb q (m + a) a (roomOf m) (2 + 20 * k) D, fun s _ => l.length - s.toNat, ⟨0, _, Nat.zero_le _, rfl, hb30⟩, ?_⟩
  rintro s w33 ⟨k, D, hk, rfl, hb⟩
  refine ⟨fun hlt => ?_, fun hge => ?_⟩
  ·have hkl : k < l.length := by have := of_decide_eq_true hlt; omega
   obtain ⟨ad, had, hat⟩ := (h1.ext (hxw8.trans hb.ext)).get hkl
   refine ⟨ad, _, had, by omega, by omega, rfl, ?_⟩
   rw [Int.toNat_natCast]
   refine ⟨_, rfl, hat, rfl, opj_one _, fun b45 w46 hb45 hw46 => ?_⟩
   have hx46 : Ext w33 w46 := Ext.new hw46
   have hBo : Blk w46 b45 29 l[k].cells := Blk.new hb45 hw46
   refine ⟨l[k].cells, rfl, hBo.at rfl, ?_⟩
   obtain ⟨ht6, hts⟩ := hall _ (List.getElem_mem hkl)
   refine cR_of (Both.step (hb.later hx46) (by omega) (Nat.le_of_eq (Nat.add_comm a m)) (by omega) (by omega) (by omega) l[k] (((h1.ext hxw8).ok _ (List.getElem_mem hkl))) ht6 hts) ?_
   rintro x48 w49 ⟨rfl, D', hb'⟩
   refine ⟨fun h => absurd h (by simp), fun _ => ?_⟩
   rw [w64_eq (by omega) (by omega)]
   exact ⟨⟨k + 1, D', by omega, by omega, hb'.more (by omega)⟩, by simp only; omega⟩
  ·obtain ⟨lptr, cs, J, plx, hBq, hA, hJw, hor⟩ := hb.ex
   have hcl := hA.len
   obtain ⟨hpd', hpq, hbb', hbq, _, _, hql'⟩ := hb.lt
   have hqF : ¬ Foot pd bb q := by rintro (e | e) <;> omega
   have hP := hb.play
   have hPl := hP.len
   obtain ⟨c0, _⟩ := bC_cell hcl hBq
   refine ⟨dp pd, by rw [add_plain]; exact c0, ?_⟩
   refine cR_of (up_ok hb.disk) ?_
   rintro x52 w53 ⟨_, h53, hf53⟩
   have hBq53 := hBq.fr hf53 hqF
   obtain ⟨ss, sp, sf, ecs, hRX⟩ := hA.foot hf53 fun k hk => hk.1
   rw [ecs] at hBq53
   show st1 _ _ _ _
   rw [add_plain, add_plain, add_plain]
   refine st1_blk hBq53 (by show 6 < 13; decide) fun w54 hB54 hf54 => ?_
   have hB54 : Blk w54 q 54 (bC pd lptr (jc (rc ss sp sf D.changes false) a (roomOf m) J.seq J.data J.count J.broken)) := hB54
   have hU : RAt w54 (fun k => ¬ Foot pd bb k ∧ k ≠ q ∧ k ≠ plx) (rc ss sp sf D.changes false) D.up := (RAt.upIt hRX).foot hf54 fun k hk => hk.2.1
   have hx54 : Ext w8 w54 := hf54.ext (footExt hf53 hb.ext hpd hbb) fun k _ e => by rw [e]; exact hq8
   have hD54 := h53.fr hf54 fun k hk e => hk.2 e
   refine ⟨fun st w' => ∃ i : Nat, i ≤ m + a ∧ st = (i : Int) ∧ Ext w54 w', fun st _ => m + a - st.toNat, ⟨0, Nat.zero_le _, rfl, Ext.refl _⟩, ?_⟩
   rintro st w56 ⟨i, hi, rfl, hx56⟩
   refine ⟨fun hlt => ?_, fun _ => ⟨rfl, (hxw8.trans hx54).trans hx56⟩⟩
   have hlt : i < m + a := by have := of_decide_eq_true hlt; omega
   obtain ⟨d0, d1, d2, _⟩ := bC_cell (rfl : (rc ss sp sf D.changes false).length = 5) (hB54.ext hx56)
   refine ⟨dp pd, by rw [add_plain]; exact d0, ?_⟩
   refine cR_of (read_up2 (hD54.ext hx56) rfl (i := i) (by show i < D.bl.length; omega)) ?_
   rintro x63 w64 ⟨hx64, he, _, hby, _⟩
   intro w65 hw65
   have hx65 : Ext w64 w65 := by subst hw65; exact Ext.drew _
   refine jn_of fun k3 hk3 => ?_
   rw [he]
   refine ⟨fun h => absurd h (by simp), fun _ => ?_⟩
   have hx64' := hx56.trans hx64
   obtain ⟨g0, g1, g2, _⟩ := bC_cell (rfl : (rc ss sp sf D.changes false).length = 5) (hB54.ext hx64')
   refine ⟨_, hby.1, hby.2, rc ss sp sf D.changes false, rfl, g2, ?_⟩
   refine cR_of (now_ok w65 _ D.up (hU.ext (hx64'.trans hx65)) (by show D.pend.length ≤ _; have := hP.pend; omega) i (by show i < D.bl.length; omega)) ?_
   rintro x71 w72 ⟨rfl, hx72⟩
   refine ⟨hx65.trans hx72, ?_⟩
   have e : nowAt D.up i = lastOf D.up.pend i (bAt D.up.bl i).2 := hP.now i hlt
   rw [e, hk3]
   refine ⟨fun h => absurd h (by simp), fun _ => ?_⟩
   rw [w64_eq (by omega) (by omega)]
   exact ⟨⟨i + 1, by omega, by omega, (hx64'.trans hx65).trans hx72⟩, by simp only; omega⟩
 exact ⟨fun _ => key 2 (by decide), fun _ => key 0 (by decide)⟩
end Go.Proofs.Ytagkcbbbdlmcjaa
end

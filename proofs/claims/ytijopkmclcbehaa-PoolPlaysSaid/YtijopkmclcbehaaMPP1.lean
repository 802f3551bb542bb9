/- Parts of a proof, one behind the other: readings of functions, what they do, and what follows. -/
import Derived.Test.YtijopkmclcbehaaMPP0
set_option linter.unusedVariables false
set_option linter.unusedSimpArgs false
section
/- The typed readings of the functions, and that the program meets each: written by gen.py (a program of this session). -/
namespace Go.Proofs.Ytijopkmclcbehaa
open Go.Lift
set_option maxRecDepth 100000 in
set_option maxHeartbeats 4000000 in
theorem s8_calls (K : Sl × Bool → World → Prop) (p0 : Option Addr) (p1 : Int) (w : World) (h : s8 K p0 p1 w) :
  Calls Try.prog 8 #[.pointer p0, .int .i64 p1] w (Ret r8 K) := by
 unfold s8 at h
 refine calls_of_CW (n := 50) Try.func8 rfl rfl rfl ?_
 refine CW.seq ?_
 refine CW.region ?_
 refine RL.opS trivial rfl (OpW.assign (v := Sl.v nilSl) rfl ?_)
 refine RL.opS trivial rfl (OpW.assign (v := .bool false) rfl ?_)
 refine RL.nil ?_
 refine CW.seq ?_
 refine CW.seq ?_
 refine CW.region ?_
 refine RL.opS trivial rfl (OpW.move (v := .pointer p0) rfl ?_)
 refine RL.opS trivial rfl (OpW.ptrNil (b := p0.isNone) (p := p0) ptr_25 rfl rfl rfl ?_)
 refine RL.nil ?_
 obtain ⟨ha, hc⟩ := h
 refine CW.cond (b := (p0.isNone)) rfl (fun hb1 => ?_) (fun hb1 => ?_)
 ·have h := ha hb1; clear ha hc
  refine CW.seq ?_
  refine CW.region ?_
  refine RL.opS trivial rfl (OpW.assign (v := Sl.v nilSl) rfl ?_)
  refine RL.opS trivial rfl (OpW.assign (v := .bool false) rfl ?_)
  refine RL.nil ?_
  refine CW.ret ?_
  exact ret_intro (res2 rfl rfl rfl) ⟨(nilSl, false), rfl, h⟩
 ·have h := hc hb1; clear ha hc
  refine CW.skip ?_
  refine CW.seq ?_
  refine CW.region ?_
  refine RL.opS trivial rfl (OpW.move (v := .pointer p0) rfl ?_)
  obtain ⟨a2, ha3, h⟩ := h
  refine RL.opS trivial rfl (OpW.nilCheck (a := a2) (congrArg Value.pointer ha3) ?_)
  refine RL.opS trivial rfl (OpW.fieldAddr field_57_2 rfl ?_)
  obtain ⟨x4, h1, h⟩ := h
  refine RL.opS trivial rfl (OpW.load1 (v := .map x4) one_54 rfl h1 ?_)
  refine RL.opS trivial rfl (OpW.move (v := .int .i64 p1) rfl ?_)
  obtain ⟨x5, x6, r_, l_, h1, h2, h3, h⟩ := h
  refine RL.opS trivial rfl (OpW.lookE (a := x5) (ok := x6) map_54 rfl rfl h1 h2 h3 ?_)
  refine RL.opS trivial rfl (OpW.move (v := .tuple #[.int .i64 x5, .bool x6]) rfl ?_)
  refine RL.opS trivial rfl (OpW.extract (v := .int .i64 x5) rfl rfl ?_)
  refine RL.opS trivial rfl (OpW.extract (v := .bool x6) rfl rfl ?_)
  refine RL.opS trivial rfl (OpW.assign (v := .int .i64 x5) rfl ?_)
  refine RL.opS trivial rfl (OpW.assign (v := .bool x6) rfl ?_)
  refine RL.nil ?_
  refine CW.seq ?_
  refine CW.seq ?_
  refine CW.region ?_
  refine RL.opS trivial rfl (OpW.move (v := .bool x6) rfl ?_)
  refine RL.opS trivial rfl (OpW.not rfl ?_)
  refine RL.nil ?_
  obtain ⟨ha, hc⟩ := h
  refine CW.cond (b := (!x6)) rfl (fun hb7 => ?_) (fun hb7 => ?_)
  ·have h := ha hb7; clear ha hc
   refine CW.seq ?_
   refine CW.region ?_
   refine RL.opS trivial rfl (OpW.move (v := .pointer p0) rfl ?_)
   obtain ⟨a8, ha9, h⟩ := h
   refine RL.opS trivial rfl (OpW.nilCheck (a := a8) (congrArg Value.pointer ha9) ?_)
   refine RL.opS trivial rfl (OpW.fieldAddr field_57_4 rfl ?_)
   obtain ⟨x10, h1, h⟩ := h
   refine RL.opS trivial rfl (OpW.load1 (v := .int .i64 x10) one_3 rfl h1 ?_)
   refine RL.opS trivial rfl (OpW.bin (k := .i64) (a := x10) (b := 1) (v := .int .i64 (IntKind.i64.wrap (x10 + 1))) rfl rfl rfl ?_)
   obtain ⟨a11, ha12, h⟩ := h
   refine RL.opS trivial rfl (OpW.nilCheck (a := a11) (congrArg Value.pointer ha12) ?_)
   refine RL.opS trivial rfl (OpW.fieldAddr field_57_4 rfl ?_)
   obtain ⟨u_, h1, h2, h⟩ := h
   obtain ⟨w13, hw13_⟩ : ∃ w_, w_ = w.setCell (Addr.add a11 4) (.int .i64 (IntKind.i64.wrap (x10 + 1))) := ⟨_, rfl⟩
   have h := h w13 hw13_
   refine RL.opN trivial (OpW.store1E (v := .int .i64 (IntKind.i64.wrap (x10 + 1))) size_3 rfl rfl rfl h1 h2 hw13_ ?_)
   refine RL.nil ?_
   refine CW.seq ?_
   refine CW.region ?_
   refine RL.opS trivial rfl (OpW.assign (v := Sl.v nilSl) rfl ?_)
   refine RL.opS trivial rfl (OpW.assign (v := .bool false) rfl ?_)
   refine RL.nil ?_
   refine CW.ret ?_
   exact ret_intro (res2 rfl rfl rfl) ⟨(nilSl, false), rfl, h⟩
  ·have h := hc hb7; clear ha hc
   refine CW.skip ?_
   refine CW.seq ?_
   refine CW.region ?_
   refine RL.opS trivial rfl (OpW.move (v := .pointer p0) rfl ?_)
   obtain ⟨a14, ha15, h⟩ := h
   refine RL.opS trivial rfl (OpW.nilCheck (a := a14) (congrArg Value.pointer ha15) ?_)
   refine RL.opS trivial rfl (OpW.fieldAddr field_57_3 rfl ?_)
   obtain ⟨x16, h1, h⟩ := h
   refine RL.opS trivial rfl (OpW.load1 (v := .int .i64 x16) one_3 rfl h1 ?_)
   refine RL.opS trivial rfl (OpW.bin (k := .i64) (a := x16) (b := 1) (v := .int .i64 (IntKind.i64.wrap (x16 + 1))) rfl rfl rfl ?_)
   obtain ⟨a17, ha18, h⟩ := h
   refine RL.opS trivial rfl (OpW.nilCheck (a := a17) (congrArg Value.pointer ha18) ?_)
   refine RL.opS trivial rfl (OpW.fieldAddr field_57_3 rfl ?_)
   obtain ⟨u_, h1, h2, h⟩ := h
   obtain ⟨w19, hw19_⟩ : ∃ w_, w_ = w.setCell (Addr.add a17 3) (.int .i64 (IntKind.i64.wrap (x16 + 1))) := ⟨_, rfl⟩
   have h := h w19 hw19_
   refine RL.opN trivial (OpW.store1E (v := .int .i64 (IntKind.i64.wrap (x16 + 1))) size_3 rfl rfl rfl h1 h2 hw19_ ?_)
   refine RL.nil ?_
   refine CW.seq ?_
   refine CW.region ?_
   refine RL.opS trivial rfl (OpW.move (v := .pointer p0) rfl ?_)
   obtain ⟨a20, ha21, h⟩ := h
   refine RL.opS trivial rfl (OpW.nilCheck (a := a20) (congrArg Value.pointer ha21) ?_)
   refine RL.opS trivial rfl (OpW.fieldAddr (off := 0) field_57_0 rfl ?_)
   obtain ⟨x22, h1, h⟩ := h
   refine RL.opS trivial rfl (OpW.load1 (v := Sl.v x22) one_55 rfl h1 ?_)
   refine RL.opS trivial rfl (OpW.move (v := .int .i64 x5) rfl ?_)
   obtain ⟨a23_, a23, h1, h2, h3, h4, h⟩ := h
   refine RL.opS trivial rfl (OpW.indexE (a' := a23) slice_55 rfl rfl h1 h2 h3 h4 ?_)
   refine RL.opS trivial rfl (OpW.assign (v := .pointer (some a23)) rfl ?_)
   refine RL.nil ?_
   refine CW.seq ?_
   refine CW.region ?_
   refine RL.opS trivial rfl (OpW.move (v := .pointer (some a23)) rfl ?_)
   refine RL.opS trivial rfl (OpW.nilCheck rfl ?_)
   refine RL.opS trivial rfl (OpW.fieldAddr field_60_1 rfl ?_)
   obtain ⟨u_, h1, h2, h⟩ := h
   obtain ⟨w25, hw25_⟩ : ∃ w_, w_ = w19.setCell (Addr.add a23 1) (.bool true) := ⟨_, rfl⟩
   have h := h w25 hw25_
   refine RL.opN trivial (OpW.store1E (v := .bool true) size_4 rfl rfl rfl h1 h2 hw25_ ?_)
   refine RL.nil ?_
   refine CW.seq ?_
   refine CW.region ?_
   refine RL.opS trivial rfl (OpW.move (v := .pointer (some a23)) rfl ?_)
   refine RL.opS trivial rfl (OpW.nilCheck rfl ?_)
   refine RL.opS trivial rfl (OpW.fieldAddr field_60_2 rfl ?_)
   obtain ⟨x26, h1, h⟩ := h
   refine RL.opS trivial rfl (OpW.load1 (v := Sl.v x26) one_33 rfl h1 ?_)
   refine RL.opS trivial rfl (OpW.callR (al := [Sl.v x26]) Try.func17 fb_17 fn_17 rfl h (fun x27 w28 h => ?_))
   refine RL.opS trivial rfl (OpW.assign (v := Sl.v x27) rfl ?_)
   refine RL.opS trivial rfl (OpW.assign (v := .bool true) rfl ?_)
   refine RL.nil ?_
   refine CW.ret ?_
   exact ret_intro (res2 rfl rfl rfl) ⟨(x27, true), rfl, h⟩
end Go.Proofs.Ytijopkmclcbehaa
end
section
/- The typed readings of the functions, and that the program meets each: written by gen.py (a program of this session). -/
namespace Go.Proofs.Ytijopkmclcbehaa
open Go.Lift
set_option maxRecDepth 100000 in
set_option maxHeartbeats 4000000 in
theorem s10_calls (K : Int → World → Prop) (p0 : Option Addr) (p1 : Int) (p2 : Sl) (w : World) (h : s10 K p0 p1 p2 w) :
  Calls Try.prog 10 #[.pointer p0, .int .i64 p1, Sl.v p2] w (Ret r10 K) := by
 unfold s10 at h
 refine calls_of_CW (n := 61) Try.func10 rfl rfl rfl ?_
 refine CW.seq ?_
 refine CW.region ?_
 refine RL.opS trivial rfl (OpW.assign (v := .int .i64 0) rfl ?_)
 refine RL.nil ?_
 refine CW.seq ?_
 refine CW.seq ?_
 refine CW.region ?_
 refine RL.opS trivial rfl (OpW.move (v := .pointer p0) rfl ?_)
 refine RL.opS trivial rfl (OpW.ptrNil (b := p0.isNone) (p := p0) ptr_25 rfl rfl rfl ?_)
 refine RL.opS trivial rfl (OpW.move (v := .bool (p0.isNone)) rfl ?_)
 refine jn_elim h ?_; clear h; intro k64 hk65 h
 refine RL.joinAt (A := Bool) 3 (fun s3 ρ => ρ 15 = .bool s3 ∧ ρ 0 = .pointer p0 ∧ ρ 1 = .int .i64 p1 ∧ ρ 2 = Sl.v p2) k64 ?_ ?_
 ·rintro s3 ρ w4 ⟨e5, e6, e7, e8⟩ h
  subst hk65
  dsimp only [List.drop]
  refine RL.nil ?_
  obtain ⟨ha, hc⟩ := h
  refine CW.cond (b := s3) e5 (fun hb9 => ?_) (fun hb9 => ?_)
  ·have h := ha hb9; clear ha hc
   refine CW.seq ?_
   refine CW.region ?_
   refine RL.opS trivial rfl (OpW.assign (v := .int .i64 (-1)) rfl ?_)
   refine RL.nil ?_
   refine CW.ret ?_
   exact ret_intro (res1 rfl rfl) ⟨(-1), rfl, h⟩
  ·have h := hc hb9; clear ha hc
   refine CW.skip ?_
   refine CW.seq ?_
   refine CW.region ?_
   refine RL.opS trivial rfl (OpW.move (v := .pointer p0) e6 ?_)
   obtain ⟨a10, ha11, h⟩ := h
   refine RL.opS trivial rfl (OpW.nilCheck (a := a10) (congrArg Value.pointer ha11) ?_)
   refine RL.opS trivial rfl (OpW.fieldAddr field_57_2 rfl ?_)
   obtain ⟨x12, h1, h⟩ := h
   refine RL.opS trivial rfl (OpW.load1 (v := .map x12) one_54 rfl h1 ?_)
   refine RL.opS trivial rfl (OpW.move (v := .int .i64 p1) e7 ?_)
   obtain ⟨x13, x14, r_, l_, h1, h2, h3, h⟩ := h
   refine RL.opS trivial rfl (OpW.lookE (a := x13) (ok := x14) map_54 rfl rfl h1 h2 h3 ?_)
   refine RL.opS trivial rfl (OpW.move (v := .tuple #[.int .i64 x13, .bool x14]) rfl ?_)
   refine RL.opS trivial rfl (OpW.extract (v := .int .i64 x13) rfl rfl ?_)
   refine RL.opS trivial rfl (OpW.extract (v := .bool x14) rfl rfl ?_)
   refine RL.opS trivial rfl (OpW.assign (v := .int .i64 x13) rfl ?_)
   refine RL.opS trivial rfl (OpW.assign (v := .bool x14) rfl ?_)
   refine RL.nil ?_
   refine CW.seq ?_
   refine CW.region ?_
   refine RL.opS trivial rfl (OpW.assign (v := .int .i64 (-1)) rfl ?_)
   refine RL.nil ?_
   refine jn_elim h ?_; clear h; intro k62 hk63 h
   refine CW.seqJ (A := Int × Int) (fun s44 ρ => ρ 7 = .int .i64 s44.1 ∧ ρ 9 = .int .i64 s44.2 ∧ ρ 0 = .pointer p0 ∧ ρ 1 = .int .i64 p1 ∧ ρ 2 = Sl.v p2) k62 ?_ ?_
   ·rintro s44 ρ w45 ⟨e46, e47, e48, e49, e50⟩ h
    subst hk63
    refine CW.seq ?_
    obtain ⟨w51, hw51_⟩ : ∃ w_, w_ = w45.drew := ⟨_, rfl⟩
    have h := h w51 hw51_
    have hx52 : Ext w45 w51 := by rw [hw51_]; exact Ext.drew _
    refine CW.draws (m := 11) (listed := #[F,F,F,F,F,F,F,F,F,F,F]) mixed [0, 1, 2, 3, 4, 5, 6, 7, 8, 9] (Ext w45) rfl rfl ?_
    rw [← hw51_]
    refine DL.takeP (listed' := #[T,F,F,F,F,F,F,F,F,F,F]) (v := .pointer p0) 0 rfl rfl (by kernel_rfl) rfl trivial rfl (fun w_ K_ h_ => OpW.move (v := .pointer p0) e48 h_) ?_
    obtain ⟨a53, ha54, h⟩ := h
    refine DL.takeP (listed' := #[T,T,F,F,F,F,F,F,F,F,F]) (v := .pointer (some a53)) 1 rfl rfl (by kernel_rfl) rfl trivial rfl (fun w_ K_ h_ => OpW.nilCheck (a := a53) (congrArg Value.pointer ha54) h_) ?_
    refine DL.takeP (listed' := #[T,T,T,F,F,F,F,F,F,F,F]) (v := .pointer (some (Addr.add a53 0))) 2 rfl rfl (by kernel_rfl) rfl trivial rfl (fun w_ K_ h_ => OpW.fieldAddr (off := 0) field_57_0 rfl h_) ?_
    obtain ⟨x55, h1, h⟩ := h
    refine DL.takeK (listed' := #[T,T,T,T,F,F,F,F,F,F,F]) (v := Sl.v x55) 3 rfl rfl (by kernel_rfl) (by kernel_rfl) rfl trivial rfl hx52 (fun w_ hS_ K_ h_ => OpW.load1 (v := Sl.v x55) one_55 rfl (hS_.cell h1) h_) ?_
    refine DL.takeP (listed' := #[T,T,T,T,T,F,F,F,F,F,F]) (v := .int .i64 s44.1) 4 rfl rfl (by kernel_rfl) rfl trivial rfl (fun w_ K_ h_ => OpW.move (v := .int .i64 s44.1) e46 h_) ?_
    refine DL.takeP (listed' := #[T,T,T,T,T,T,F,F,F,F,F]) (v := .int .i64 p1) 5 rfl rfl (by kernel_rfl) rfl trivial rfl (fun w_ K_ h_ => OpW.move (v := .int .i64 p1) e49 h_) ?_
    refine DL.takeP (listed' := #[T,T,T,T,T,T,T,F,F,F,F]) (v := Sl.v p2) 6 rfl rfl (by kernel_rfl) rfl trivial rfl (fun w_ K_ h_ => OpW.move (v := Sl.v p2) e50 h_) ?_
    refine DL.execS (listed' := #[T,T,T,T,T,T,T,T,F,F,F]) 7 rfl (by kernel_rfl) rfl trivial rfl (OpW.callR (al := [Sl.v p2]) Try.func17 fb_17 fn_17 rfl h (fun x56 w57 h => ?_))
    obtain ⟨hx58, h⟩ := h
    refine ⟨(fun _ _ => hx58), ?_⟩
    refine DL.takeP (listed' := #[T,T,T,T,T,T,T,T,T,F,F]) (v := aggv [.int .i64 p1, .bool true, Sl.v x56]) 8 rfl rfl (by kernel_rfl) rfl trivial rfl (fun w_ K_ h_ => OpW.buildL (vs := [(0, .int .i64 p1), (1, .bool true), (2, Sl.v x56)]) (cs := [.int .i64 p1, .bool true, Sl.v x56]) (by rfl) (fun _ => by kernel_rfl) h_) ?_
    obtain ⟨a59_, a59, h1, h2, h3, h4, h⟩ := h
    refine DL.takeP (listed' := #[T,T,T,T,T,T,T,T,T,T,F]) (v := .pointer (some a59)) 9 rfl rfl (by kernel_rfl) rfl trivial rfl (fun w_ K_ h_ => OpW.indexE (a' := a59) slice_55 rfl rfl h1 h2 h3 h4 h_) ?_
    obtain ⟨g_, o_, e_, cur_, ha_, h1, h2, h3, h4, h⟩ := h
    obtain ⟨w61, hw61_⟩ : ∃ w_, w_ = w57.setRow g_ (cur_.toList.take o_ ++ [.int .i64 p1, .bool true, Sl.v x56] ++ cur_.toList.drop (o_ + List.length [.int .i64 p1, .bool true, Sl.v x56])).toArray := ⟨_, rfl⟩
    have h := h w61 hw61_
    refine DL.execN (listed' := #[T,T,T,T,T,T,T,T,T,T,T]) 10 rfl (by kernel_rfl) rfl trivial (OpW.storeAE (cs := [.int .i64 p1, .bool true, Sl.v x56]) size_60 rfl rfl ha_ h1 h2 h3 h4 hw61_ ?_)
    refine ⟨(fun h_ => absurd h_ (by decide)), ?_⟩
    refine DL.done (by kernel_rfl) ?_
    refine CW.seq ?_
    refine CW.region ?_
    refine RL.opS trivial rfl (OpW.move (v := .int .i64 s44.2) e47 ?_)
    refine RL.opS trivial rfl (OpW.assign (v := .int .i64 s44.2) rfl ?_)
    refine RL.nil ?_
    refine CW.ret ?_
    exact ret_intro (res1 rfl rfl) ⟨s44.2, rfl, h⟩
   ·clear hk63
    refine CW.seq ?_
    refine CW.region ?_
    refine RL.opS trivial rfl (OpW.move (v := .bool x14) rfl ?_)
    refine RL.opS trivial rfl (OpW.not rfl ?_)
    refine RL.nil ?_
    obtain ⟨ha, hc⟩ := h
    refine CW.cond (b := (!x14)) rfl (fun hb16 => ?_) (fun hb16 => ?_)
    ·have h := ha hb16; clear ha hc
     refine CW.seq ?_
     refine CW.region ?_
     refine RL.opS trivial rfl (OpW.move (v := .pointer p0) e6 ?_)
     refine RL.opS trivial rfl (OpW.callR (al := [.pointer p0]) Try.func20 fb_20 fn_20 rfl h (fun x17 w18 h => ?_))
     refine RL.opS trivial rfl (OpW.assign (v := .int .i64 x17) rfl ?_)
     refine RL.nil ?_
     refine jn_elim h ?_; clear h; intro k42 hk43 h
     refine CW.seqJ (A := Int) (fun s31 ρ => ρ 9 = .int .i64 s31 ∧ ρ 0 = .pointer p0 ∧ ρ 1 = .int .i64 p1 ∧ ρ 2 = Sl.v p2 ∧ ρ 7 = .int .i64 x17) k42 ?_ ?_
     ·rintro s31 ρ w32 ⟨e33, e34, e35, e36, e37⟩ h
      subst hk43
      refine CW.region ?_
      refine RL.opS trivial rfl (OpW.move (v := .pointer p0) e34 ?_)
      obtain ⟨a38, ha39, h⟩ := h
      refine RL.opS trivial rfl (OpW.nilCheck (a := a38) (congrArg Value.pointer ha39) ?_)
      refine RL.opS trivial rfl (OpW.fieldAddr field_57_2 rfl ?_)
      obtain ⟨x40, h1, h⟩ := h
      refine RL.opS trivial rfl (OpW.load1 (v := .map x40) one_54 rfl h1 ?_)
      refine RL.opS trivial rfl (OpW.move (v := .int .i64 p1) e35 ?_)
      refine RL.opS trivial rfl (OpW.move (v := .int .i64 x17) e37 ?_)
      refine RL.opN trivial (OpW.updE map_54 rfl rfl rfl h (fun w41 h => ?_))
      refine RL.nil ?_
      exact ⟨(x17, s31), ⟨e37, e33, e34, e35, e36⟩, h⟩
     ·clear hk43
      refine CW.seq ?_
      refine CW.region ?_
      refine RL.opS trivial rfl (OpW.move (v := .pointer p0) e6 ?_)
      obtain ⟨a20, ha21, h⟩ := h
      refine RL.opS trivial rfl (OpW.nilCheck (a := a20) (congrArg Value.pointer ha21) ?_)
      refine RL.opS trivial rfl (OpW.fieldAddr (off := 0) field_57_0 rfl ?_)
      obtain ⟨x22, h1, h⟩ := h
      refine RL.opS trivial rfl (OpW.load1 (v := Sl.v x22) one_55 rfl h1 ?_)
      refine RL.opS trivial rfl (OpW.move (v := .int .i64 x17) rfl ?_)
      obtain ⟨a23_, a23, h1, h2, h3, h4, h⟩ := h
      refine RL.opS trivial rfl (OpW.indexE (a' := a23) slice_55 rfl rfl h1 h2 h3 h4 ?_)
      refine RL.opS trivial rfl (OpW.fieldAddr (off := 0) field_60_0 rfl ?_)
      obtain ⟨x25, h1, h⟩ := h
      refine RL.opS trivial rfl (OpW.load1 (v := .int .i64 x25) one_3 rfl h1 ?_)
      refine RL.opS trivial rfl (OpW.assign (v := .int .i64 x25) rfl ?_)
      refine RL.nil ?_
      refine CW.seq ?_
      refine CW.region ?_
      refine RL.opS trivial rfl (OpW.move (v := .int .i64 x25) rfl ?_)
      refine RL.opS trivial rfl (OpW.bin (k := .i64) (a := x25) (b := 0) (v := .bool (decide (0 ≤ x25))) rfl rfl rfl ?_)
      refine RL.nil ?_
      obtain ⟨ha, hc⟩ := h
      refine CW.cond (b := (decide (0 ≤ x25))) rfl (fun hb26 => ?_) (fun hb26 => ?_)
      ·have h := ha hb26; clear ha hc
       refine CW.region ?_
       refine RL.opS trivial rfl (OpW.move (v := .pointer p0) e6 ?_)
       obtain ⟨a27, ha28, h⟩ := h
       refine RL.opS trivial rfl (OpW.nilCheck (a := a27) (congrArg Value.pointer ha28) ?_)
       refine RL.opS trivial rfl (OpW.fieldAddr field_57_2 rfl ?_)
       obtain ⟨x29, h1, h⟩ := h
       refine RL.opS trivial rfl (OpW.load1 (v := .map x29) one_54 rfl h1 ?_)
       refine RL.opS trivial rfl (OpW.move (v := .int .i64 x25) rfl ?_)
       refine RL.opN trivial (OpW.delE map_54 rfl rfl rfl h (fun w30 h => ?_))
       refine RL.nil ?_
       exact ⟨x25, ⟨rfl, e6, e7, e8, rfl⟩, h⟩
      ·have h := hc hb26; clear ha hc
       refine CW.skip ?_
       exact ⟨x25, ⟨rfl, e6, e7, e8, rfl⟩, h⟩
    ·have h := hc hb16; clear ha hc
     refine CW.skip ?_
     exact ⟨(x13, (-1)), ⟨rfl, rfl, e6, e7, e8⟩, h⟩
 ·clear hk65
  dsimp only [List.take]
  obtain ⟨ha, hc⟩ := h
  rcases Bool.eq_false_or_eq_true (p0.isNone) with hb1 | hb1
  ·have h := ha hb1; clear ha hc
   refine RL.skipS (notWanted_of rfl rfl hb1) rfl ?_
   refine RL.skipS (notWanted_of rfl rfl hb1) rfl ?_
   refine RL.opS trivial rfl (OpW.pick (b := true) (v := .bool true) (congrArg Value.bool hb1) rfl ?_)
   refine RL.nil ?_
   exact ⟨true, ⟨rfl, rfl, rfl, rfl⟩, h⟩
  ·have h := hc hb1; clear ha hc
   refine RL.opS (wanted_of rfl rfl hb1) rfl (OpW.move (v := .int .i64 p1) rfl ?_)
   refine RL.opS (wanted_of rfl rfl hb1) rfl (OpW.bin (k := .i64) (a := p1) (b := 0) (v := .bool (decide (p1 < 0))) rfl rfl rfl ?_)
   refine RL.opS trivial rfl (OpW.pick (b := false) (v := .bool (decide (p1 < 0))) (congrArg Value.bool hb1) rfl ?_)
   refine RL.nil ?_
   exact ⟨(decide (p1 < 0)), ⟨rfl, rfl, rfl, rfl⟩, h⟩
end Go.Proofs.Ytijopkmclcbehaa
end
section
/- The typed readings of the functions, and that the program meets each: written by gen.py (a program of this session). -/
namespace Go.Proofs.Ytijopkmclcbehaa
open Go.Lift
set_option maxRecDepth 100000 in
set_option maxHeartbeats 4000000 in
theorem s13_calls (K : Bool → World → Prop) (p0 : Option Addr) (p1 : Int) (w : World) (h : s13 K p0 p1 w) :
  Calls Try.prog 13 #[.pointer p0, .int .i64 p1] w (Ret r13 K) := by
 unfold s13 at h
 refine calls_of_CW (n := 32) Try.func13 rfl rfl rfl ?_
 refine CW.seq ?_
 refine CW.region ?_
 refine RL.opS trivial rfl (OpW.assign (v := .bool false) rfl ?_)
 refine RL.nil ?_
 refine CW.seq ?_
 refine CW.seq ?_
 refine CW.region ?_
 refine RL.opS trivial rfl (OpW.move (v := .pointer p0) rfl ?_)
 refine RL.opS trivial rfl (OpW.ptrNil (b := p0.isNone) (p := p0) ptr_25 rfl rfl rfl ?_)
 refine RL.nil ?_
 obtain ⟨ha, hc⟩ := h
 refine CW.cond (b := (p0.isNone)) rfl (fun hb1 => ?_) (fun hb1 => ?_)
 ·have h := ha hb1; clear ha hc
  refine CW.seq ?_
  refine CW.region ?_
  refine RL.opS trivial rfl (OpW.assign (v := .bool false) rfl ?_)
  refine RL.nil ?_
  refine CW.ret ?_
  exact ret_intro (res1 rfl rfl) ⟨false, rfl, h⟩
 ·have h := hc hb1; clear ha hc
  refine CW.skip ?_
  refine CW.seq ?_
  refine CW.region ?_
  refine RL.opS trivial rfl (OpW.move (v := .pointer p0) rfl ?_)
  obtain ⟨a2, ha3, h⟩ := h
  refine RL.opS trivial rfl (OpW.nilCheck (a := a2) (congrArg Value.pointer ha3) ?_)
  refine RL.opS trivial rfl (OpW.fieldAddr field_57_2 rfl ?_)
  obtain ⟨x4, h1, h⟩ := h
  refine RL.opS trivial rfl (OpW.load1 (v := .map x4) one_54 rfl h1 ?_)
  refine RL.opS trivial rfl (OpW.move (v := .int .i64 p1) rfl ?_)
  obtain ⟨x5, x6, r_, l_, h1, h2, h3, h⟩ := h
  refine RL.opS trivial rfl (OpW.lookE (a := x5) (ok := x6) map_54 rfl rfl h1 h2 h3 ?_)
  refine RL.opS trivial rfl (OpW.move (v := .tuple #[.int .i64 x5, .bool x6]) rfl ?_)
  refine RL.opS trivial rfl (OpW.extract (v := .int .i64 x5) rfl rfl ?_)
  refine RL.opS trivial rfl (OpW.extract (v := .bool x6) rfl rfl ?_)
  refine RL.opS trivial rfl (OpW.assign (v := .int .i64 x5) rfl ?_)
  refine RL.opS trivial rfl (OpW.assign (v := .bool x6) rfl ?_)
  refine RL.nil ?_
  refine jn_elim h ?_; clear h; intro k22 hk23 h
  refine CW.seqJ (A := Unit) (fun s19 ρ => ρ 6 = .bool x6) k22 ?_ ?_
  ·rintro s19 ρ w20 e21 h
   subst hk23
   refine CW.seq ?_
   refine CW.region ?_
   refine RL.opS trivial rfl (OpW.move (v := .bool x6) e21 ?_)
   refine RL.opS trivial rfl (OpW.assign (v := .bool x6) rfl ?_)
   refine RL.nil ?_
   refine CW.ret ?_
   exact ret_intro (res1 rfl rfl) ⟨x6, rfl, h⟩
  ·clear hk23
   refine CW.seq ?_
   refine CW.region ?_
   refine RL.opS trivial rfl (OpW.move (v := .bool x6) rfl ?_)
   refine RL.nil ?_
   obtain ⟨ha, hc⟩ := h
   refine CW.cond (b := x6) rfl (fun hb8 => ?_) (fun hb8 => ?_)
   ·have h := ha hb8; clear ha hc
    refine CW.seq ?_
    refine CW.region ?_
    refine RL.opS trivial rfl (OpW.move (v := .pointer p0) rfl ?_)
    obtain ⟨a9, ha10, h⟩ := h
    refine RL.opS trivial rfl (OpW.nilCheck (a := a9) (congrArg Value.pointer ha10) ?_)
    refine RL.opS trivial rfl (OpW.fieldAddr (off := 0) field_57_0 rfl ?_)
    obtain ⟨x11, h1, h⟩ := h
    refine RL.opS trivial rfl (OpW.load1 (v := Sl.v x11) one_55 rfl h1 ?_)
    refine RL.opS trivial rfl (OpW.move (v := .int .i64 x5) rfl ?_)
    refine RL.opS trivial rfl (OpW.buildL (vs := [(0, .int .i64 (-1))]) (cs := [.int .i64 (-1), Value.bool false, Value.slice none 0 0]) (by rfl) (fun _ => by kernel_rfl) ?_)
    obtain ⟨a12_, a12, h1, h2, h3, h4, h⟩ := h
    refine RL.opS trivial rfl (OpW.indexE (a' := a12) slice_55 rfl rfl h1 h2 h3 h4 ?_)
    obtain ⟨g_, o_, e_, cur_, ha_, h1, h2, h3, h4, h⟩ := h
    obtain ⟨w14, hw14_⟩ : ∃ w_, w_ = w.setRow g_ (cur_.toList.take o_ ++ [.int .i64 (-1), Value.bool false, Value.slice none 0 0] ++ cur_.toList.drop (o_ + List.length [.int .i64 (-1), Value.bool false, Value.slice none 0 0])).toArray := ⟨_, rfl⟩
    have h := h w14 hw14_
    refine RL.opN trivial (OpW.storeAE (cs := [.int .i64 (-1), Value.bool false, Value.slice none 0 0]) size_60 rfl rfl ha_ h1 h2 h3 h4 hw14_ ?_)
    refine RL.nil ?_
    refine CW.region ?_
    refine RL.opS trivial rfl (OpW.move (v := .pointer p0) rfl ?_)
    obtain ⟨a15, ha16, h⟩ := h
    refine RL.opS trivial rfl (OpW.nilCheck (a := a15) (congrArg Value.pointer ha16) ?_)
    refine RL.opS trivial rfl (OpW.fieldAddr field_57_2 rfl ?_)
    obtain ⟨x17, h1, h⟩ := h
    refine RL.opS trivial rfl (OpW.load1 (v := .map x17) one_54 rfl h1 ?_)
    refine RL.opS trivial rfl (OpW.move (v := .int .i64 p1) rfl ?_)
    refine RL.opN trivial (OpW.delE map_54 rfl rfl rfl h (fun w18 h => ?_))
    refine RL.nil ?_
    exact ⟨(), rfl, h⟩
   ·have h := hc hb8; clear ha hc
    refine CW.skip ?_
    exact ⟨(), rfl, h⟩
end Go.Proofs.Ytijopkmclcbehaa
end
section
/- The typed readings of the functions, and that the program meets each: written by gen.py (a program of this session). -/
namespace Go.Proofs.Ytijopkmclcbehaa
open Go.Lift
set_option maxRecDepth 100000 in
set_option maxHeartbeats 4000000 in
theorem s14_calls (K : Sl → World → Prop) (p0 : Option Addr) (w : World) (h : s14 K p0 w) :
  Calls Try.prog 14 #[.pointer p0] w (Ret r14 K) := by
 unfold s14 at h
 refine calls_of_CW (n := 24) Try.func14 rfl rfl rfl ?_
 refine CW.seq ?_
 refine CW.region ?_
 refine RL.opS trivial rfl (OpW.assign (v := Sl.v nilSl) rfl ?_)
 refine RL.nil ?_
 refine CW.seq ?_
 refine CW.seq ?_
 refine CW.region ?_
 refine RL.opS trivial rfl (OpW.move (v := .pointer p0) rfl ?_)
 refine RL.opS trivial rfl (OpW.ptrNil (b := p0.isNone) (p := p0) ptr_25 rfl rfl rfl ?_)
 refine RL.nil ?_
 obtain ⟨ha, hc⟩ := h
 refine CW.cond (b := (p0.isNone)) rfl (fun hb1 => ?_) (fun hb1 => ?_)
 ·have h := ha hb1; clear ha hc
  refine CW.seq ?_
  refine CW.region ?_
  refine RL.opS trivial rfl (OpW.assign (v := Sl.v nilSl) rfl ?_)
  refine RL.nil ?_
  refine CW.ret ?_
  exact ret_intro (res1 rfl rfl) ⟨nilSl, rfl, h⟩
 ·have h := hc hb1; clear ha hc
  refine CW.skip ?_
  refine CW.seq ?_
  refine CW.region ?_
  refine RL.opS trivial rfl (OpW.assign (v := Sl.v nilSl) rfl ?_)
  refine RL.nil ?_
  refine CW.seq ?_
  refine CW.seq ?_
  refine CW.region ?_
  refine RL.opS trivial rfl (OpW.move (v := .pointer p0) rfl ?_)
  obtain ⟨a2, ha3, h⟩ := h
  refine RL.opS trivial rfl (OpW.nilCheck (a := a2) (congrArg Value.pointer ha3) ?_)
  refine RL.opS trivial rfl (OpW.fieldAddr (off := 0) field_57_0 rfl ?_)
  obtain ⟨x4, h1, h⟩ := h
  refine RL.opS trivial rfl (OpW.load1 (v := Sl.v x4) one_55 rfl h1 ?_)
  refine RL.opS trivial rfl (OpW.len (s := x4) slice_55 rfl ?_)
  refine RL.opS trivial rfl (OpW.move (v := .int .i64 0) rfl ?_)
  refine RL.nil ?_
  refine CW.block ?_
  obtain ⟨I23, mu24, hI, hs⟩ := h
  refine CW.loop (σ := Sl × Int) (fun s5 ρ => ρ 3 = Sl.v s5.1 ∧ ρ 13 = .int .i64 s5.2 ∧ ρ 11 = Sl.v x4 ∧ ρ 12 = .int .i64 (x4.len : Int)) I23 mu24 (nilSl, 0) ⟨rfl, rfl, rfl, rfl⟩ hI ?_
  rintro s5 ρ w6 ⟨e8, e9, e10, e11⟩ hI
  have h := hs s5 w6 hI
  clear hs hI
  refine CW.seq ?_
  refine CW.region ?_
  refine RL.opS trivial rfl (OpW.bin (k := .i64) (a := s5.2) (b := (x4.len : Int)) (v := .bool (decide (s5.2 < (x4.len : Int)))) e9 e11 rfl ?_)
  refine RL.nil ?_
  refine CW.seq ?_
  obtain ⟨ha, hc⟩ := h
  refine CW.cond (b := (decide (s5.2 < (x4.len : Int)))) rfl (fun hb12 => ?_) (fun hb12 => ?_)
  ·have h := ha hb12; clear ha hc
   refine CW.skip ?_
   refine CW.seq ?_
   refine CW.block ?_
   refine CW.seq ?_
   refine CW.region ?_
   obtain ⟨a13_, a13, h1, h2, h3, h4, h⟩ := h
   refine RL.opS trivial rfl (OpW.indexE (a' := a13) slice_55 e10 e9 h1 h2 h3 h4 ?_)
   obtain ⟨x15, h1, h2, h⟩ := h
   refine RL.opS trivial rfl (OpW.loadA agg_60 rfl h1 h2 ?_)
   obtain ⟨hl_b16, ho_b16, h⟩ := h
   obtain ⟨b16, hb16_⟩ : ∃ b_, b_ = w6.heap.size := ⟨_, rfl⟩
   obtain ⟨w17, hw17_⟩ : ∃ w_, w_ = w6.alloc (.cells (List.toArray x15) 60) := ⟨_, rfl⟩
   have h := h b16 w17 hb16_ hw17_
   refine RL.opS trivial rfl (OpW.allocZ (b := b16) zero_60 hb16_ ?_)
   refine RL.opN trivial (OpW.storeF (zs := [Value.int .i64 0, Value.bool false, Value.slice none 0 0]) (cs := x15) size_60 rfl rfl hl_b16 (by decide) ho_b16 hb16_ hw17_ ?_)
   refine RL.nil ?_
   refine CW.region ?_
   refine RL.opS trivial rfl (OpW.move (v := Sl.v s5.1) e8 ?_)
   refine RL.opS trivial rfl (OpW.fieldAddr (off := 0) field_60_0 rfl ?_)
   obtain ⟨x18, h1, h⟩ := h
   refine RL.opS trivial rfl (OpW.load1 (v := .int .i64 x18) one_3 rfl h1 ?_)
   obtain ⟨b19, hb19_⟩ : ∃ b_, b_ = w17.heap.size := ⟨_, rfl⟩
   obtain ⟨w20, hw20_⟩ : ∃ w_, w_ = w17.alloc (.cells (List.toArray [.int .i64 x18]) 3) := ⟨_, rfl⟩
   have h := h b19 w20 hb19_ hw20_
   refine RL.opS trivial rfl (OpW.buildSliceE (vs := [(0, .int .i64 x18)]) (cs := [.int .i64 x18]) (by rfl) (by kernel_rfl) hb19_ hw20_ ?_)
   obtain ⟨x21, w22, hr_, h⟩ := h
   refine RL.opS trivial rfl (OpW.appendL (v := Sl.v x21) rfl hr_ ?_)
   refine RL.opS trivial rfl (OpW.assign (v := Sl.v x21) rfl ?_)
   refine RL.nil ?_
   refine CW.region ?_
   refine RL.opS trivial rfl (OpW.bin (k := .i64) (a := s5.2) (b := 1) (v := .int .i64 (IntKind.i64.wrap (s5.2 + 1))) e9 rfl rfl ?_)
   refine RL.opS trivial rfl (OpW.move (v := .int .i64 (IntKind.i64.wrap (s5.2 + 1))) rfl ?_)
   refine RL.nil ?_
   exact ⟨(x21, (IntKind.i64.wrap (s5.2 + 1))), ⟨rfl, rfl, e10, e11⟩, h⟩
  ·have h := hc hb12; clear ha hc
   refine CW.exit ?_
   refine CW.seq ?_
   refine CW.region ?_
   refine RL.opS trivial rfl (OpW.move (v := Sl.v s5.1) e8 ?_)
   refine RL.opS trivial rfl (OpW.assign (v := Sl.v s5.1) rfl ?_)
   refine RL.nil ?_
   refine CW.ret ?_
   exact ret_intro (res1 rfl rfl) ⟨s5.1, rfl, h⟩
end Go.Proofs.Ytijopkmclcbehaa
end
section
/- The typed readings of the functions, and that the program meets each: written by gen.py (a program of this session). -/
namespace Go.Proofs.Ytijopkmclcbehaa
open Go.Lift
set_option maxRecDepth 100000 in
set_option maxHeartbeats 4000000 in
theorem s15_calls (K : Int × Int → World → Prop) (p0 : Option Addr) (w : World) (h : s15 K p0 w) :
  Calls Try.prog 15 #[.pointer p0] w (Ret r15 K) := by
 unfold s15 at h
 refine calls_of_CW (n := 14) Try.func15 rfl rfl rfl ?_
 refine CW.seq ?_
 refine CW.region ?_
 refine RL.opS trivial rfl (OpW.assign (v := .int .i64 0) rfl ?_)
 refine RL.opS trivial rfl (OpW.assign (v := .int .i64 0) rfl ?_)
 refine RL.nil ?_
 refine CW.seq ?_
 refine CW.seq ?_
 refine CW.region ?_
 refine RL.opS trivial rfl (OpW.move (v := .pointer p0) rfl ?_)
 refine RL.opS trivial rfl (OpW.ptrNil (b := p0.isNone) (p := p0) ptr_25 rfl rfl rfl ?_)
 refine RL.nil ?_
 obtain ⟨ha, hc⟩ := h
 refine CW.cond (b := (p0.isNone)) rfl (fun hb1 => ?_) (fun hb1 => ?_)
 ·have h := ha hb1; clear ha hc
  refine CW.seq ?_
  refine CW.region ?_
  refine RL.opS trivial rfl (OpW.assign (v := .int .i64 0) rfl ?_)
  refine RL.opS trivial rfl (OpW.assign (v := .int .i64 0) rfl ?_)
  refine RL.nil ?_
  refine CW.ret ?_
  exact ret_intro (res2 rfl rfl rfl) ⟨(0, 0), rfl, h⟩
 ·have h := hc hb1; clear ha hc
  refine CW.skip ?_
  refine CW.seq ?_
  obtain ⟨w2, hw2_⟩ : ∃ w_, w_ = w.drew := ⟨_, rfl⟩
  have h := h w2 hw2_
  have hx3 : Ext w w2 := by rw [hw2_]; exact Ext.drew _
  refine CW.draws (m := 10) (listed := #[F,F,F,F,F,F,F,F,F,F]) mixed [0, 1, 2, 3, 4, 5, 6, 7, 8, 9] (Ext w) rfl rfl ?_
  rw [← hw2_]
  refine DL.takeP (listed' := #[T,F,F,F,F,F,F,F,F,F]) (v := .pointer p0) 0 rfl rfl (by kernel_rfl) rfl trivial rfl (fun w_ K_ h_ => OpW.move (v := .pointer p0) rfl h_) ?_
  obtain ⟨a4, ha5, h⟩ := h
  refine DL.takeP (listed' := #[T,T,F,F,F,F,F,F,F,F]) (v := .pointer (some a4)) 1 rfl rfl (by kernel_rfl) rfl trivial rfl (fun w_ K_ h_ => OpW.nilCheck (a := a4) (congrArg Value.pointer ha5) h_) ?_
  refine DL.takeP (listed' := #[T,T,T,F,F,F,F,F,F,F]) (v := .pointer (some (Addr.add a4 3))) 2 rfl rfl (by kernel_rfl) rfl trivial rfl (fun w_ K_ h_ => OpW.fieldAddr field_57_3 rfl h_) ?_
  obtain ⟨x6, h1, h⟩ := h
  refine DL.takeK (listed' := #[T,T,T,T,F,F,F,F,F,F]) (v := .int .i64 x6) 3 rfl rfl (by kernel_rfl) (by kernel_rfl) rfl trivial rfl hx3 (fun w_ hS_ K_ h_ => OpW.load1 (v := .int .i64 x6) one_3 rfl (hS_.cell h1) h_) ?_
  refine DL.takeP (listed' := #[T,T,T,T,T,F,F,F,F,F]) (v := .pointer p0) 4 rfl rfl (by kernel_rfl) rfl trivial rfl (fun w_ K_ h_ => OpW.move (v := .pointer p0) rfl h_) ?_
  obtain ⟨a7, ha8, h⟩ := h
  refine DL.takeP (listed' := #[T,T,T,T,T,T,F,F,F,F]) (v := .pointer (some a7)) 5 rfl rfl (by kernel_rfl) rfl trivial rfl (fun w_ K_ h_ => OpW.nilCheck (a := a7) (congrArg Value.pointer ha8) h_) ?_
  refine DL.takeP (listed' := #[T,T,T,T,T,T,T,F,F,F]) (v := .pointer (some (Addr.add a7 4))) 6 rfl rfl (by kernel_rfl) rfl trivial rfl (fun w_ K_ h_ => OpW.fieldAddr field_57_4 rfl h_) ?_
  obtain ⟨x9, h1, h⟩ := h
  refine DL.takeK (listed' := #[T,T,T,T,T,T,T,T,F,F]) (v := .int .i64 x9) 7 rfl rfl (by kernel_rfl) (by kernel_rfl) rfl trivial rfl hx3 (fun w_ hS_ K_ h_ => OpW.load1 (v := .int .i64 x9) one_3 rfl (hS_.cell h1) h_) ?_
  refine DL.takeP (listed' := #[T,T,T,T,T,T,T,T,T,F]) (v := .int .i64 x6) 8 rfl rfl (by kernel_rfl) rfl trivial rfl (fun w_ K_ h_ => OpW.assign (v := .int .i64 x6) rfl h_) ?_
  refine DL.takeP (listed' := #[T,T,T,T,T,T,T,T,T,T]) (v := .int .i64 x9) 9 rfl rfl (by kernel_rfl) rfl trivial rfl (fun w_ K_ h_ => OpW.assign (v := .int .i64 x9) rfl h_) ?_
  refine DL.done (by kernel_rfl) ?_
  refine CW.ret ?_
  exact ret_intro (res2 rfl rfl rfl) ⟨(x6, x9), rfl, h⟩
end Go.Proofs.Ytijopkmclcbehaa
end
section
/- What Get, Put, Drop, Pages and Counts leave and answer. -/
namespace Go.Proofs.Ytijopkmclcbehaa
open Go.Lift Go.Lift.Pool Go.RowKit
theorem find_some {P : Pl} {n : Int} {i : Nat} (h : P.find n = some i) : 0 ≤ n ∧ i < P.fr.length ∧ (fAt P.fr i).page = n ∧ atF P.fr n = some i := by
 unfold Pl.find at h
 by_cases h0 : 0 ≤ n
 ·rw [if_pos h0] at h
  obtain ⟨h1, h2, _⟩ := atF_some h
  exact ⟨h0, h1, h2, h⟩
 ·rw [if_neg h0] at h; cases h
theorem find_none {P : Pl} {n : Int} (h : P.find n = none) (h0 : 0 ≤ n) : atF P.fr n = none := by
 unfold Pl.find at h
 rwa [if_pos h0] at h
theorem map_page_set (l : List Fm) (i : Nat) (f : Fm) : (l.set i f).map (·.page) = (l.map (·.page)).set i f.page := by rw [List.map_set]
theorem map_page_same {l : List Fm} {i : Nat} (hi : i < l.length) {f : Fm} (hf : f.page = (fAt l i).page) : (l.set i f).map (·.page) = l.map (·.page) := by
 rw [map_page_set, hf, fAt_lt hi, ← List.getElem_map (fun f : Fm => f.page) (h := by simpa using hi)]
 exact List.set_getElem_self (by simpa using hi)
theorem page_get {l : List Fm} {i : Nat} (hi : i < l.length) : (l.map (·.page))[i]? = some (fAt l i).page := by
 rw [fAt_lt hi]; simp [hi]
theorem place_lt {P : Pl} (hw : P.Wf) : P.place.2 < P.fr.length ∧ P.place.1.fr.length = P.fr.length ∧ P.place.1.fr.map (·.page) = P.fr.map (·.page) := by
 unfold Pl.place
 cases ha : atF P.fr (-1) with
 | some i => exact ⟨(atF_some ha).1, rfl, rfl⟩
 | none =>
  obtain ⟨h1, h2, h3⟩ := clk_ok (marks P.fr) P.fr P.hand hw.hand (Nat.le_refl _)
  have h4 := congrArg List.length h1
  simp only [List.length_map] at h4
  have h5 := congrArg (List.map (·.1)) h1
  simp only [List.map_map] at h5
  exact ⟨h3, h4, h5⟩

theorem get_ok (w : World) (B : Nat → Prop) (pb g r : Nat) (P : Pl) (h : PAt w B pb g r P) (hc : P.hits + P.misses ≤ 1000000) (n : Int) :
  Calls Try.prog 8 #[.pointer (pp pb), .int .i64 n] w (Ret r8 fun x w' => x.2 = (P.get n).2.2 ∧ Bytes w' x.1 (P.get n).2.1 ∧ PAt w' B pb g r (P.get n).1 ∧ Fr (Foot pb g r) w w' ∧ ∀ a, x.1.a = some a → ¬ Foot pb g r a.block) := by
 obtain ⟨cap, rest, L, kv, h⟩ := h
 apply s8_calls
 refine ⟨fun hf => (by cases hf), fun _ => ?_⟩
 refine ⟨_, rfl, some r, by rw [add_plain]; exact h.pool.cell rfl, _, _, r, kv, rfl, h.map, rfl, ?_⟩
 have hfd := h.agree.find n
 unfold Pl.get
 cases hi : P.find n with
 | none =>
  rw [hi] at hfd
  rw [hfd]
  refine ⟨fun _ => ?_, fun hf => (by cases hf)⟩
  refine ⟨_, rfl, (P.misses : Int), by rw [add_plain]; exact h.pool.cell rfl, _, rfl, ?_⟩
  show st1 _ _ _ _
  rw [add_plain]
  refine st1_blk h.pool (by simp [pc]) fun w' hp' hf' => ?_
  rw [w64_eq (by omega) (by omega)] at hp'
  have hF : Fr (Foot pb g r) w w' := hf'.mono foot_p
  exact ⟨rfl, ⟨rfl, rfl⟩, ⟨cap, rest, L, kv, h.upd hF (fun _ _ h => h) hp' (h.rows.fr hf' (Ne.symm h.n1)) (h.map.fr hf' (Ne.symm h.n2)) ⟨h.wf.pos, h.wf.few, h.wf.hand, h.wf.page, h.wf.bs⟩ h.fr rfl h.agree fun q hq => .inl ⟨q, hq, rfl, rfl⟩⟩, hF, fun a ha => (by cases ha)⟩
 | some i =>
  obtain ⟨h0, hil, hpg, ha⟩ := find_some hi
  rw [hi] at hfd
  rw [hfd]
  refine ⟨fun hf => (by cases hf), fun _ => ?_⟩
  refine ⟨_, rfl, (P.hits : Int), by rw [add_plain]; exact h.pool.cell rfl, _, rfl, ?_⟩
  show st1 _ _ _ _
  rw [add_plain]
  refine st1_blk h.pool (by simp [pc]) fun w1 hp1 hf1 => ?_
  rw [w64_eq (by omega) (by omega)] at hp1
  have hF1 : Fr (Foot pb g r) w w1 := hf1.mono foot_p
  have h1 : PX w1 B pb g r cap rest L kv { P with hits := P.hits + 1 } :=
   h.upd hF1 (fun _ _ h => h) hp1 (h.rows.fr hf1 (Ne.symm h.n1)) (h.map.fr hf1 (Ne.symm h.n2)) ⟨h.wf.pos, h.wf.few, h.wf.hand, h.wf.page, h.wf.bs⟩ h.fr rfl h.agree fun q hq => .inl ⟨q, hq, rfl, rfl⟩
  have hiL : i < L.length := by rw [h.len]; exact hil
  have hfew := h.wf.few
  refine ⟨_, rfl, ⟨some ⟨g, 0, none⟩, P.fr.length, cap⟩, by rw [add_plain]; exact h1.pool.cell rfl, ⟨g, 0, none⟩, _, rfl, by show (0 : Int) ≤ (i : Int); omega, by show (i : Int) < (P.fr.length : Int); omega, rfl, ?_⟩
  show st1 _ _ _ _
  rw [add_plain, add_plain, Nat.zero_add]
  have ei : (((Option.map Int.ofNat (some i)).getD 0).toNat) = i := rfl
  rw [ei]
  have hlr : i * 3 + 1 < (L.flatMap fsC ++ rest).length := by
   rw [List.length_append, flatMap_len fsC fsC_len]; omega
  refine st1_blk h1.rows hlr fun w2 hr2 hf2 => ?_
  rw [flat_mark rest true L i hiL] at hr2
  have hF2 : Fr (Foot pb g r) w1 w2 := hf2.mono foot_g
  have hmf := map_fst_mark L i hiL true
  rw [h.fst hiL, h.fr] at hmf
  have h2 : PX w2 B pb g r cap rest (L.set i (setMark L[i] true)) kv { P with hits := P.hits + 1, fr := P.fr.set i { fAt P.fr i with mark := true } } := by
   refine h1.upd hF2 (fun _ _ h => h) ?_ hr2 (h1.map.fr hf2 (Ne.symm h.n3)) ?_ hmf (by simp) ?_ (fun q hq => .inl (mem_setMark hiL hq))
   ·have e : pc g r cap { P with hits := P.hits + 1, fr := P.fr.set i { fAt P.fr i with mark := true } } = pc g r cap { P with hits := P.hits + 1 } := by simp [pc]
    rw [e]; exact h1.pool.fr hf2 h.n1
   ·exact h1.wf.set i (f := { fAt P.fr i with mark := true }) (h.wf.page (fAt P.fr i) (fAt_mem hil)) (h.wf.bs (fAt P.fr i) (fAt_mem hil))
   ·show Agree kv ((P.fr.set i _).map (·.page))
    rw [map_page_same hil (f := { fAt P.fr i with mark := true }) rfl]
    exact h.agree
  have hiL2 : i < (L.set i (setMark L[i] true)).length := by simpa using hiL
  have hq : (L.set i (setMark L[i] true))[i]'hiL2 = setMark L[i] true := List.getElem_set_self ..
  refine ⟨L[i].2, ?_, ?_⟩
  ·rw [add_plain]
   refine h2.cell hiL2 (by decide) ?_
   rw [hq]; rfl
  have htx := (h2.txt _ (List.getElem_mem hiL2)).1
  rw [hq] at htx
  have hbs : (setMark L[i] true).1.bs = (fAt P.fr i).bs := by
   show (L[i]).1.bs = _
   rw [h.fst hiL]
  rw [hbs] at htx
  refine cR_of (clone_ok w2 L[i].2 (fAt P.fr i).bs htx (by have := h.wf.bs _ (fAt_mem hil); omega)) fun x w3 hh => ?_
  obtain ⟨hx1, hx2, hfar⟩ := hh
  refine ⟨rfl, hx1, ⟨cap, rest, _, kv, h2.ext hx2⟩, hF1.trans (hF2.trans (Fr.of hx2)), fun a ha hft => ?_⟩
  have := (hfar a ha).1
  have := h2.pool.lt
  have := h2.rows.lt
  have := h2.map.lt
  rcases hft with e | e | e <;> omega

theorem put_ok (w : World) (B : Nat → Prop) (pb g r : Nat) (P : Pl) (h : PAt w B pb g r P) (n : Int) (s : Sl) (bs : List UInt8) (hb : Bytes w s bs) (hl : bs.length ≤ 1000) (hs : ∀ a, s.a = some a → ¬ Foot pb g r a.block) :
  Calls Try.prog 10 #[.pointer (pp pb), .int .i64 n, s.v] w (Ret r10 fun x w' => x = (P.put n bs).2 ∧ PAt w' (fun k => B k ∨ w.heap.size ≤ k) pb g r (P.put n bs).1 ∧ Fr (Foot pb g r) w w') := by
 obtain ⟨cap, rest, L, kv, h⟩ := h
 apply s10_calls
 refine jn_of fun k1 hk1 => ?_
 refine ⟨fun hf => (by cases hf), fun _ => ?_⟩
 rw [hk1]
 refine ⟨fun hn => ?_, fun hn => ?_⟩
 ·have hn := of_decide_eq_true hn
  unfold Pl.put
  rw [if_pos hn]
  exact ⟨rfl, ⟨cap, rest, L, kv, h.mono fun k _ hk => .inl hk⟩, Fr.refl w⟩
 have hn := of_decide_eq_false hn
 have h0 : 0 ≤ n := by omega
 refine ⟨_, rfl, some r, by rw [add_plain]; exact h.pool.cell rfl, _, _, r, kv, rfl, h.map, rfl, ?_⟩
 have hfd := h.agree.find n
 refine jn_of fun k2 hk2 => ?_
 have key : ∀ (w1 w2 : World) (i : Nat) (gone : Int) (P1 : Pl) (L1 : List FS) (kv0 kv1 : KV), PX w1 B pb g r cap rest L1 kv0 P1 → Fr (Foot pb g r) w w1 → Fr (· = r) w1 w2 → MapAt w2 r kv1 → i < P1.fr.length →
   Agree kv1 ((P1.setF i ⟨n, true, bs⟩).fr.map (·.page)) → (P1.setF i ⟨n, true, bs⟩, gone) = P.put n bs → k2 ((i : Int), gone) w2 := by
  intro w1 w2 i gone P1 L1 kv0 kv1 h1 hF1 hf2 hm2 hi hag hput
  rw [hk2, ← hput]
  intro w3 hw3
  have hx3 : Ext w2 w3 := by rw [hw3]; exact Ext.drew _
  have hF2 : Fr (Foot pb g r) w1 w2 := hf2.mono foot_r
  have hp2 := h1.pool.fr hf2 h1.n2
  have hr2 := h1.rows.fr hf2 h1.n3
  have hfew := h1.wf.few
  refine ⟨_, rfl, ⟨some ⟨g, 0, none⟩, P1.fr.length, cap⟩, by rw [add_plain]; exact hp2.cell rfl, ?_⟩
  have hb3 : Bytes w3 s bs := ((hF2.bytes (fun a ha => hs a ha) (hF1.bytes (fun a ha => hs a ha) hb))).ext hx3
  refine cR_of (clone_ok w3 s bs hb3 (by omega)) fun x w4 hh => ?_
  obtain ⟨hb4, hx4, hfar⟩ := hh
  have hiL : i < L1.length := by rw [h1.len]; exact hi
  refine ⟨hx3.trans hx4, ⟨g, 0, none⟩, _, rfl, by show (0 : Int) ≤ (i : Int); omega, by show (i : Int) < (P1.fr.length : Int); omega, rfl, ?_⟩
  show stA _ _ _ _ _
  rw [add_plain, Nat.zero_add, Int.toNat_natCast]
  have hx24 := hx3.trans hx4
  have hlr : i * 3 + 3 ≤ (L1.flatMap fsC ++ rest).length := by
   rw [List.length_append, flatMap_len fsC fsC_len]; omega
  refine stA_blk (cs := fsC (⟨n, true, bs⟩, x)) (hr2.ext hx24) rfl hlr (fsC_one _) fun w5 hr5 hf5 => ?_
  rw [flatMap_splice fsC fsC_len rest _ L1 i hiL] at hr5
  have hF5 : Fr (Foot pb g r) w4 w5 := hf5.mono foot_g
  have hF15 : Fr (Foot pb g r) w1 w5 := hF2.trans ((Fr.of hx24).trans hF5)
  have hfr1 : (L1.set i ((⟨n, true, bs⟩ : Fm), x)).map (·.1) = (P1.setF i ⟨n, true, bs⟩).fr := by
   rw [List.map_set, h1.fr]; rfl
  have hlt1 := h1.pool.lt
  have hlt2 := h1.rows.lt
  have hlt3 := h1.map.lt
  have hs12 := hF2.size
  have hs23 := hx3.size
  have hs01 := hF1.size
  have hfarF : ∀ a, x.a = some a → ¬ Foot pb g r a.block := by
   intro a ha hft
   have := (hfar a ha).1
   rcases hft with e | e | e <;> omega
  refine ⟨rfl, ⟨cap, rest, _, kv1, h1.upd hF15 (fun k _ hk => .inl hk) ?_ hr5 ?_ ?_ hfr1 (by simp [Pl.setF]) hag ?_⟩, hF1.trans hF15⟩
  ·have e : pc g r cap (P1.setF i ⟨n, true, bs⟩) = pc g r cap P1 := by simp [pc, Pl.setF]
   rw [e]
   exact (hp2.ext hx24).fr hf5 h1.n1
  ·exact (hm2.fr (X := fun _ => False) (Fr.of hx24) (fun h => h)).fr hf5 (Ne.symm h1.n3)
  ·exact h1.wf.set i (.inr h0) hl
  ·intro q hq
   rcases List.mem_or_eq_of_mem_set hq with hq | rfl
   ·exact .inl ⟨q, hq, rfl, rfl⟩
   ·refine .inr ⟨hF5.bytes hfarF hb4, fun a ha => ⟨.inr ?_, ?_, hfarF a ha⟩⟩
    ·have := (hfar a ha).1; omega
    ·have := (hfar a ha).2; have := hF5.size; omega
 cases hi : P.find n with
 | some i =>
  obtain ⟨_, hil, hpg, ha⟩ := find_some hi
  rw [hi] at hfd
  rw [hfd]
  refine ⟨fun hf => (by cases hf), fun _ => ?_⟩
  refine key w w i (-1) P L kv kv h (Fr.refl w) (Fr.refl w) h.map hil ?_ ?_
  ·show Agree kv ((P.fr.set i _).map (·.page))
   rw [map_page_same hil (f := ⟨n, true, bs⟩) hpg.symm]
   exact h.agree
  ·unfold Pl.put
   rw [if_neg hn, ha]
 | none =>
  have ha := find_none hi h0
  rw [hi] at hfd
  have hlk : lkAt kv n = none := hfd
  rw [hfd]
  refine ⟨fun _ => ?_, fun hf => (by cases hf)⟩
  refine cR_of (place_ok w B pb g r cap rest L kv P h) fun x w1 hh => ?_
  obtain ⟨rfl, ⟨L1, h1⟩, hF1⟩ := hh
  obtain ⟨hpl, hplen, hpps⟩ := place_lt h.wf
  have hil : P.place.2 < P.place.1.fr.length := by omega
  have hiL : P.place.2 < L1.length := by rw [h1.len]; exact hil
  refine jn_of fun k3 hk3 => ?_
  have hfew := h1.wf.few
  have hps := page_get hil
  have key2 : ∀ (w2 : World), Fr (· = r) w1 w2 → MapAt w2 r (if 0 ≤ (fAt P.place.1.fr P.place.2).page then dlAt kv (fAt P.place.1.fr P.place.2).page else kv) → k3 (fAt P.place.1.fr P.place.2).page w2 := by
   intro w2 hf2 hm2
   rw [hk3]
   have hp2 := h1.pool.fr hf2 h1.n2
   have hlk2 : lkAt (if 0 ≤ (fAt P.place.1.fr P.place.2).page then dlAt kv (fAt P.place.1.fr P.place.2).page else kv) n = none := by
    split
    ·rw [lk_dl _ _ _ h1.agree.nodup]
     split
     ·rfl
     ·exact hlk
    ·exact hlk
   refine ⟨_, rfl, some r, by rw [add_plain]; exact hp2.cell rfl, r, _, rfl, hm2, hlk2, fun w3 hm3 hf3 => ?_⟩
   refine key w1 w3 P.place.2 _ P.place.1 L1 kv _ h1 hF1 (hf2.trans hf3) hm3 hil ?_ ?_
   ·show Agree _ ((P.place.1.fr.set P.place.2 _).map (·.page))
    rw [map_page_set]
    have hc := h1.agree.clear hps
    have hlen : P.place.2 < (P.place.1.fr.map (·.page)).length := by simpa using hil
    have := hc.fill (a := P.place.2) (o := -1) (m := n) (List.getElem?_set_self hlen) (by decide) h0 hlk2
    rw [List.set_set] at this
    exact this
   ·unfold Pl.put
    rw [if_neg hn, ha]
  refine ⟨_, rfl, ⟨some ⟨g, 0, none⟩, P.place.1.fr.length, cap⟩, by rw [add_plain]; exact h1.pool.cell rfl, ⟨g, 0, none⟩, _, rfl, by show (0 : Int) ≤ (P.place.2 : Int); omega, by show (P.place.2 : Int) < (P.place.1.fr.length : Int); omega, rfl, (fAt P.place.1.fr P.place.2).page, ?_, ?_⟩
  ·rw [add_plain, add_plain, Nat.zero_add, Int.toNat_natCast]
   refine h1.cell hiL (by decide) ?_
   show some (Value.int .i64 (L1[P.place.2]).1.page) = _
   rw [h1.fst hiL]
  refine ⟨fun hp => ?_, fun hp => ?_⟩
  ·have hp := of_decide_eq_true hp
   refine ⟨_, rfl, some r, by rw [add_plain]; exact h1.pool.cell rfl, r, kv, rfl, h1.map, fun w2 hm2 hf2 => key2 w2 hf2 ?_⟩
   rw [if_pos hp]; exact hm2
  ·have hp := of_decide_eq_false hp
   refine key2 w1 (Fr.refl w1) ?_
   rw [if_neg hp]; exact h1.map

theorem drop_ok (w : World) (B : Nat → Prop) (pb g r : Nat) (P : Pl) (h : PAt w B pb g r P) (n : Int) :
  Calls Try.prog 13 #[.pointer (pp pb), .int .i64 n] w (Ret r13 fun x w' => x = (P.drop n).2 ∧ PAt w' B pb g r (P.drop n).1 ∧ Fr (Foot pb g r) w w') := by
 obtain ⟨cap, rest, L, kv, h⟩ := h
 apply s13_calls
 refine ⟨fun hf => (by cases hf), fun _ => ?_⟩
 refine ⟨_, rfl, some r, by rw [add_plain]; exact h.pool.cell rfl, _, _, r, kv, rfl, h.map, rfl, ?_⟩
 have hfd := h.agree.find n
 refine jn_of fun k1 hk1 => ?_
 rw [hk1]
 unfold Pl.drop
 cases hi : P.find n with
 | none =>
  rw [hi] at hfd
  rw [hfd]
  refine ⟨fun hf => (by cases hf), fun _ => ?_⟩
  exact ⟨rfl, ⟨cap, rest, L, kv, h⟩, Fr.refl w⟩
 | some i =>
  obtain ⟨h0, hil, hpg, ha⟩ := find_some hi
  rw [hi] at hfd
  rw [hfd]
  refine ⟨fun _ => ?_, fun hf => (by cases hf)⟩
  have hiL : i < L.length := by rw [h.len]; exact hil
  have hfew := h.wf.few
  refine ⟨_, rfl, ⟨some ⟨g, 0, none⟩, P.fr.length, cap⟩, by rw [add_plain]; exact h.pool.cell rfl, ⟨g, 0, none⟩, _, rfl, by show (0 : Int) ≤ (i : Int); omega, by show (i : Int) < (P.fr.length : Int); omega, rfl, ?_⟩
  show stA _ _ _ _ _
  have ei : (((Option.map Int.ofNat (some i)).getD 0).toNat) = i := rfl
  rw [add_plain, Nat.zero_add, ei]
  have hlr : i * 3 + 3 ≤ (L.flatMap fsC ++ rest).length := by
   rw [List.length_append, flatMap_len fsC fsC_len]; omega
  refine stA_blk (cs := fsC (emF, nilSl)) h.rows rfl hlr (fsC_one _) fun w1 hr1 hf1 => ?_
  rw [flatMap_splice fsC fsC_len rest _ L i hiL] at hr1
  have hF1 : Fr (Foot pb g r) w w1 := hf1.mono foot_g
  have hp1 := h.pool.fr hf1 h.n1
  refine ⟨_, rfl, some r, by rw [add_plain]; exact hp1.cell rfl, r, kv, rfl, h.map.fr hf1 (Ne.symm h.n3), fun w2 hm2 hf2 => ?_⟩
  have hF2 : Fr (Foot pb g r) w1 w2 := hf2.mono foot_r
  refine ⟨rfl, ⟨cap, rest, _, _, h.upd (hF1.trans hF2) (fun _ _ h => h) ?_ (hr1.fr hf2 h.n3) hm2 ?_ (by rw [List.map_set, h.fr]; rfl) (by simp [Pl.setF]) ?_ ?_⟩, hF1.trans hF2⟩
  ·have e : pc g r cap (P.setF i emF) = pc g r cap P := by simp [pc, Pl.setF]
   rw [e]
   exact hp1.fr hf2 h.n2
  ·exact h.wf.set i (.inl rfl) (by simp [emF])
  ·show Agree _ ((P.fr.set i emF).map (·.page))
   rw [map_page_set]
   have := h.agree.clear (page_get hil)
   rw [hpg, if_pos h0] at this
   exact this
  ·intro q hq
   rcases List.mem_or_eq_of_mem_set hq with hq | rfl
   ·exact .inl ⟨q, hq, rfl, rfl⟩
   ·exact .inr ⟨⟨rfl, rfl⟩, fun a ha => by cases ha⟩

theorem mk_47 : mkCells Try.prog 47 = some (3, 1, 8, [Value.int .i64 0]) := by kernel_rfl
def pgs (l : List Fm) : List Value := l.map fun f => .int .i64 f.page
theorem pages_ok (w : World) (B : Nat → Prop) (pb g r : Nat) (P : Pl) (h : PAt w B pb g r P) :
  Calls Try.prog 14 #[.pointer (pp pb)] w (Ret r14 fun x w' => x.len = P.fr.length ∧ AtO w' x.a (pgs P.fr) ∧ Ext w w') := by
 obtain ⟨cap, rest, L, kv, h⟩ := h
 apply s14_calls
 refine ⟨fun hf => (by cases hf), fun _ => ?_⟩
 refine ⟨_, rfl, ⟨some ⟨g, 0, none⟩, P.fr.length, cap⟩, by rw [add_plain]; exact h.pool.cell rfl, ?_⟩
 have hfew := h.wf.few
 have hLl := h.len
 refine ⟨fun st w' => Ext w w' ∧ ∃ k : Nat, k ≤ P.fr.length ∧ st.2 = (k : Int) ∧ st.1.len = k ∧ Own w' w.heap.size 3 1 st.1 (pgs (P.fr.take k)), fun st _ => P.fr.length - st.2.toNat, ⟨Ext.refl w, 0, Nat.zero_le _, rfl, rfl, Own.nil _ _ _ _⟩, ?_⟩
 rintro ⟨sl, st⟩ w' ⟨hx, k, hk, rfl, hsl, ho⟩
 simp only at hsl ho
 have h' := h.ext hx
 refine ⟨fun hlt => ?_, fun hge => ?_⟩
 ·have hlt : k < P.fr.length := by have := of_decide_eq_true hlt; have h2 : (k : Int) < (P.fr.length : Int) := this; omega
  have hkL : k < L.length := by omega
  refine ⟨⟨g, 0, none⟩, _, rfl, by show (0 : Int) ≤ (k : Int); omega, by show (k : Int) < (P.fr.length : Int); omega, rfl, fsC L[k], rfl, ?_, ?_⟩
  ·rw [add_plain, Nat.zero_add]; exact h'.frame hkL
  refine ⟨rfl, fsC_one _, fun b1 w1 hb1 hw1 => ?_⟩
  refine ⟨(L[k]).1.page, by rw [add_plain]; exact (Blk.new hb1 hw1).cell rfl, fun b2 w2 hb2 hw2 => ?_⟩
  have hx1 : Ext w' w1 := Ext.new hw1
  have hx2 : Ext w1 w2 := Ext.new hw2
  have hx02 := hx.trans (hx1.trans hx2)
  refine app_ok (base := w.heap.size) mk_47 rfl (by decide) (Own.ext (hx1.trans hx2) ho) (news := [.int .i64 (L[k]).1.page]) rfl (At.new hb2 hw2) (one_ok rfl) (by simp only [maxLen]; omega) (by simp only; omega) hx02.size ?_
  intro s' w3 hl' ho' _ hB'
  refine ⟨⟨hB' _ _ hx02 (Nat.le_refl _) hx02.size, k + 1, by omega, by simp only; rw [w64_eq (by omega) (by omega)]; omega, by simp only; rw [hl', hsl], ?_⟩, by simp only; rw [w64_eq (by omega) (by omega)]; omega⟩
  have e : pgs (P.fr.take (k + 1)) = pgs (P.fr.take k) ++ [.int .i64 (L[k]).1.page] := by
   rw [List.take_succ_eq_append_getElem hlt, h.fst hkL, fAt_lt hlt]
   unfold pgs
   rw [List.map_append]
   rfl
  simp only
  rw [e]; exact ho'
 ·have hge : k = P.fr.length := by have := of_decide_eq_false hge; have h2 : ¬ ((k : Int) < (P.fr.length : Int)) := this; omega
  subst hge
  rw [List.take_length] at ho
  exact ⟨hsl, ho.at, hx⟩
theorem counts_ok (w : World) (B : Nat → Prop) (pb g r : Nat) (P : Pl) (h : PAt w B pb g r P) :
  Calls Try.prog 15 #[.pointer (pp pb)] w (Ret r15 fun x w' => x = ((P.hits : Int), (P.misses : Int)) ∧ Ext w w') := by
 obtain ⟨cap, rest, L, kv, h⟩ := h
 apply s15_calls
 refine ⟨fun hf => (by cases hf), fun _ => ?_⟩
 intro w2 hw2
 refine ⟨_, rfl, (P.hits : Int), by rw [add_plain]; exact h.pool.cell rfl, _, rfl, (P.misses : Int), by rw [add_plain]; exact h.pool.cell rfl, rfl, ?_⟩
 rw [hw2]; exact Ext.drew _
end Go.Proofs.Ytijopkmclcbehaa
end
section
/- The typed readings of the functions, and that the program meets each: written by gen.py (a program of this session). -/
namespace Go.Proofs.Ytijopkmclcbehaa
open Go.Lift
set_option maxRecDepth 100000 in
set_option maxHeartbeats 4000000 in
theorem s6_calls (K : Option Addr × Int → World → Prop) (p0 : Int) (w : World) (h : s6 K p0 w) :
  Calls Try.prog 6 #[.int .i64 p0] w (Ret r6 K) := by
 unfold s6 at h
 refine calls_of_CW (n := 30) Try.func6 rfl rfl rfl ?_
 refine CW.seq ?_
 refine CW.region ?_
 refine RL.opS trivial rfl (OpW.assign (v := .pointer none) rfl ?_)
 refine RL.opS trivial rfl (OpW.assign (v := .int .i64 0) rfl ?_)
 refine RL.nil ?_
 refine CW.seq ?_
 refine CW.seq ?_
 refine CW.region ?_
 refine RL.opS trivial rfl (OpW.move (v := .int .i64 p0) rfl ?_)
 refine RL.opS trivial rfl (OpW.bin (k := .i64) (a := p0) (b := 1) (v := .bool (decide (p0 < 1))) rfl rfl rfl ?_)
 refine RL.opS trivial rfl (OpW.move (v := .bool (decide (p0 < 1))) rfl ?_)
 refine jn_elim h ?_; clear h; intro k29 hk30 h
 refine RL.joinAt (A := Bool) 3 (fun s3 ρ => ρ 10 = .bool s3 ∧ ρ 0 = .int .i64 p0) k29 ?_ ?_
 ·rintro s3 ρ w4 ⟨e5, e6⟩ h
  subst hk30
  dsimp only [List.drop]
  refine RL.nil ?_
  obtain ⟨ha, hc⟩ := h
  refine CW.cond (b := s3) e5 (fun hb7 => ?_) (fun hb7 => ?_)
  ·have h := ha hb7; clear ha hc
   refine CW.seq ?_
   refine CW.region ?_
   refine RL.opS trivial rfl (OpW.assign (v := .pointer none) rfl ?_)
   refine RL.opS trivial rfl (OpW.assign (v := .int .i64 1) rfl ?_)
   refine RL.nil ?_
   refine CW.ret ?_
   exact ret_intro (res2 rfl rfl rfl) ⟨(none, 1), rfl, h⟩
  ·have h := hc hb7; clear ha hc
   refine CW.skip ?_
   refine CW.seq ?_
   refine CW.region ?_
   refine RL.opS trivial rfl (OpW.mkmE h (fun x8 w9 h => ?_))
   refine RL.opS trivial rfl (OpW.buildL (vs := [(2, .map x8)]) (cs := [Value.slice none 0 0, Value.int .i64 0, .map x8, Value.int .i64 0, Value.int .i64 0]) (by rfl) (fun _ => by kernel_rfl) ?_)
   obtain ⟨b10, hb10_⟩ : ∃ b_, b_ = w9.heap.size := ⟨_, rfl⟩
   obtain ⟨w11, hw11_⟩ : ∃ w_, w_ = w9.alloc (.cells (List.toArray [Value.slice none 0 0, Value.int .i64 0, .map x8, Value.int .i64 0, Value.int .i64 0]) 57) := ⟨_, rfl⟩
   have h := h b10 w11 hb10_ hw11_
   refine RL.opS trivial rfl (OpW.boxE (cs := [Value.slice none 0 0, Value.int .i64 0, .map x8, Value.int .i64 0, Value.int .i64 0]) (rfl) hb10_ hw11_ ?_)
   refine RL.opS trivial rfl (OpW.assign (v := .pointer (some ⟨b10, 0, none⟩)) rfl ?_)
   refine RL.nil ?_
   refine CW.seq ?_
   refine CW.seq ?_
   refine CW.region ?_
   refine RL.opS trivial rfl (OpW.move (v := .int .i64 p0) e6 ?_)
   refine RL.opS trivial rfl (OpW.move (v := .int .i64 0) rfl ?_)
   refine RL.nil ?_
   refine CW.block ?_
   obtain ⟨I27, mu28, hI, hs⟩ := h
   refine CW.loop (σ := Int) (fun s12 ρ => ρ 15 = .int .i64 s12 ∧ ρ 4 = .pointer (some ⟨b10, 0, none⟩) ∧ ρ 14 = .int .i64 p0) I27 mu28 0 ⟨rfl, rfl, rfl⟩ hI ?_
   rintro s12 ρ w13 ⟨e15, e16, e17⟩ hI
   have h := hs s12 w13 hI
   clear hs hI
   refine CW.seq ?_
   refine CW.region ?_
   refine RL.opS trivial rfl (OpW.bin (k := .i64) (a := s12) (b := p0) (v := .bool (decide (s12 < p0))) e15 e17 rfl ?_)
   refine RL.nil ?_
   refine CW.seq ?_
   obtain ⟨ha, hc⟩ := h
   refine CW.cond (b := (decide (s12 < p0))) rfl (fun hb18 => ?_) (fun hb18 => ?_)
   ·have h := ha hb18; clear ha hc
    refine CW.skip ?_
    refine CW.seq ?_
    refine CW.block ?_
    refine CW.region ?_
    refine RL.opS trivial rfl (OpW.move (v := .pointer (some ⟨b10, 0, none⟩)) e16 ?_)
    refine RL.opS trivial rfl (OpW.move (v := .pointer (some ⟨b10, 0, none⟩)) e16 ?_)
    refine RL.opS trivial rfl (OpW.nilCheck rfl ?_)
    refine RL.opS trivial rfl (OpW.fieldAddr (off := 0) field_57_0 rfl ?_)
    obtain ⟨x19, h1, h⟩ := h
    refine RL.opS trivial rfl (OpW.load1 (v := Sl.v x19) one_55 rfl h1 ?_)
    refine RL.opS trivial rfl (OpW.buildL (vs := [(0, .int .i64 (-1))]) (cs := [.int .i64 (-1), Value.bool false, Value.slice none 0 0]) (by rfl) (fun _ => by kernel_rfl) ?_)
    obtain ⟨hl_, ho_, h⟩ := h
    obtain ⟨b20, hb20_⟩ : ∃ b_, b_ = w13.heap.size := ⟨_, rfl⟩
    obtain ⟨w21, hw21_⟩ : ∃ w_, w_ = w13.alloc (.cells (List.toArray [.int .i64 (-1), Value.bool false, Value.slice none 0 0]) 60) := ⟨_, rfl⟩
    have h := h b20 w21 hb20_ hw21_
    refine RL.opS trivial rfl (OpW.buildSliceE (vs := [(0, aggv [.int .i64 (-1), Value.bool false, Value.slice none 0 0])]) (cs := [.int .i64 (-1), Value.bool false, Value.slice none 0 0]) (by rfl) (fillOne mkz_55 (by simp) (by decide) (by decide) hl_) hb20_ hw21_ ?_)
    obtain ⟨b22, hb22_⟩ : ∃ b_, b_ = w21.heap.size := ⟨_, rfl⟩
    obtain ⟨w23, hw23_⟩ : ∃ w_, w_ = w21.alloc (.cells (List.toArray [Sl.v x19, Sl.v ⟨some ⟨b20, 0, none⟩, 1, 1⟩]) 55) := ⟨_, rfl⟩
    have h := h b22 w23 hb22_ hw23_
    refine RL.opS trivial rfl (OpW.buildSliceE (vs := [(0, Sl.v x19), (1, Sl.v ⟨some ⟨b20, 0, none⟩, 1, 1⟩)]) (cs := [Sl.v x19, Sl.v ⟨some ⟨b20, 0, none⟩, 1, 1⟩]) (by rfl) (by kernel_rfl) hb22_ hw23_ ?_)
    refine RL.opS trivial rfl (OpW.callR (al := [Sl.v ⟨some ⟨b22, 0, none⟩, 2, 2⟩]) Try.func16 fb_16 fn_16 rfl h (fun x24 w25 h => ?_))
    refine RL.opS trivial rfl (OpW.nilCheck rfl ?_)
    refine RL.opS trivial rfl (OpW.fieldAddr (off := 0) field_57_0 rfl ?_)
    obtain ⟨u_, h1, h2, h⟩ := h
    obtain ⟨w26, hw26_⟩ : ∃ w_, w_ = w25.setCell (Addr.add ⟨b10, 0, none⟩ 0) (Sl.v x24) := ⟨_, rfl⟩
    have h := h w26 hw26_
    refine RL.opN trivial (OpW.store1E (v := Sl.v x24) size_55 rfl rfl rfl h1 h2 hw26_ ?_)
    refine RL.nil ?_
    refine CW.region ?_
    refine RL.opS trivial rfl (OpW.bin (k := .i64) (a := s12) (b := 1) (v := .int .i64 (IntKind.i64.wrap (s12 + 1))) e15 rfl rfl ?_)
    refine RL.opS trivial rfl (OpW.move (v := .int .i64 (IntKind.i64.wrap (s12 + 1))) rfl ?_)
    refine RL.nil ?_
    exact ⟨(IntKind.i64.wrap (s12 + 1)), ⟨rfl, e16, e17⟩, h⟩
   ·have h := hc hb18; clear ha hc
    refine CW.exit ?_
    refine CW.seq ?_
    refine CW.region ?_
    refine RL.opS trivial rfl (OpW.move (v := .pointer (some ⟨b10, 0, none⟩)) e16 ?_)
    refine RL.opS trivial rfl (OpW.assign (v := .pointer (some ⟨b10, 0, none⟩)) rfl ?_)
    refine RL.opS trivial rfl (OpW.assign (v := .int .i64 0) rfl ?_)
    refine RL.nil ?_
    refine CW.ret ?_
    exact ret_intro (res2 rfl rfl rfl) ⟨(some ⟨b10, 0, none⟩, 0), rfl, h⟩
 ·clear hk30
  dsimp only [List.take]
  obtain ⟨ha, hc⟩ := h
  rcases Bool.eq_false_or_eq_true (decide (p0 < 1)) with hb1 | hb1
  ·have h := ha hb1; clear ha hc
   refine RL.skipS (notWanted_of rfl rfl hb1) rfl ?_
   refine RL.skipS (notWanted_of rfl rfl hb1) rfl ?_
   refine RL.opS trivial rfl (OpW.pick (b := true) (v := .bool true) (congrArg Value.bool hb1) rfl ?_)
   refine RL.nil ?_
   exact ⟨true, ⟨rfl, rfl⟩, h⟩
  ·have h := hc hb1; clear ha hc
   refine RL.opS (wanted_of rfl rfl hb1) rfl (OpW.move (v := .int .i64 p0) rfl ?_)
   refine RL.opS (wanted_of rfl rfl hb1) rfl (OpW.bin (k := .i64) (a := p0) (b := 64) (v := .bool (decide (64 < p0))) rfl rfl rfl ?_)
   refine RL.opS trivial rfl (OpW.pick (b := false) (v := .bool (decide (64 < p0))) (congrArg Value.bool hb1) rfl ?_)
   refine RL.nil ?_
   exact ⟨(decide (64 < p0)), ⟨rfl, rfl⟩, h⟩
end Go.Proofs.Ytijopkmclcbehaa
end
section
/- The typed readings of the functions, and that the program meets each: written by gen.py (a program of this session). -/
namespace Go.Proofs.Ytijopkmclcbehaa
open Go.Lift
set_option maxRecDepth 100000 in
set_option maxHeartbeats 4000000 in
theorem s16_calls (K : Sl → World → Prop) (p0 : Sl) (w : World) (h : s16 K p0 w) :
  Calls Try.prog 16 #[Sl.v p0] w (Ret r16 K) := by
 unfold s16 at h
 refine calls_of_CW (n := 36) Try.func16 rfl rfl rfl ?_
 refine CW.seq ?_
 refine CW.region ?_
 refine RL.opS trivial rfl (OpW.assign (v := Sl.v nilSl) rfl ?_)
 refine RL.nil ?_
 refine CW.seq ?_
 refine CW.region ?_
 refine RL.opS trivial rfl (OpW.assign (v := .int .i64 0) rfl ?_)
 refine RL.nil ?_
 refine CW.seq ?_
 refine CW.seq ?_
 refine CW.region ?_
 refine RL.opS trivial rfl (OpW.move (v := Sl.v p0) rfl ?_)
 refine RL.opS trivial rfl (OpW.len (s := p0) slice_67 rfl ?_)
 refine RL.opS trivial rfl (OpW.move (v := .int .i64 0) rfl ?_)
 refine RL.nil ?_
 refine CW.block ?_
 obtain ⟨I41, mu42, hI, hs⟩ := h
 refine CW.loop (σ := Int × Int) (fun s1 ρ => ρ 3 = .int .i64 s1.1 ∧ ρ 11 = .int .i64 s1.2 ∧ ρ 0 = Sl.v p0 ∧ ρ 9 = Sl.v p0 ∧ ρ 10 = .int .i64 (p0.len : Int)) I41 mu42 (0, 0) ⟨rfl, rfl, rfl, rfl, rfl⟩ hI ?_
 rintro s1 ρ w2 ⟨e4, e5, e6, e7, e8⟩ hI
 have h := hs s1 w2 hI
 clear hs hI
 refine CW.seq ?_
 refine CW.region ?_
 refine RL.opS trivial rfl (OpW.bin (k := .i64) (a := s1.2) (b := (p0.len : Int)) (v := .bool (decide (s1.2 < (p0.len : Int)))) e5 e8 rfl ?_)
 refine RL.nil ?_
 refine CW.seq ?_
 obtain ⟨ha, hc⟩ := h
 refine CW.cond (b := (decide (s1.2 < (p0.len : Int)))) rfl (fun hb9 => ?_) (fun hb9 => ?_)
 ·have h := ha hb9; clear ha hc
  refine CW.skip ?_
  refine jn_elim h ?_; clear h; intro k22 hk23 h
  refine CW.seqJ (A := Int) (fun s15 ρ => ρ 3 = .int .i64 s15 ∧ ρ 0 = Sl.v p0 ∧ ρ 9 = Sl.v p0 ∧ ρ 10 = .int .i64 (p0.len : Int) ∧ ρ 11 = .int .i64 s1.2) k22 ?_ ?_
  ·rintro s15 ρ w16 ⟨e17, e18, e19, e20, e21⟩ h
   subst hk23
   refine CW.region ?_
   refine RL.opS trivial rfl (OpW.bin (k := .i64) (a := s1.2) (b := 1) (v := .int .i64 (IntKind.i64.wrap (s1.2 + 1))) e21 rfl rfl ?_)
   refine RL.opS trivial rfl (OpW.move (v := .int .i64 (IntKind.i64.wrap (s1.2 + 1))) rfl ?_)
   refine RL.nil ?_
   exact ⟨(s15, (IntKind.i64.wrap (s1.2 + 1))), ⟨e17, rfl, e18, e19, e20⟩, h⟩
  ·clear hk23
   refine CW.block ?_
   refine CW.seq ?_
   refine CW.region ?_
   obtain ⟨a11_, a11, h1, h2, h3, h4, h⟩ := h
   refine RL.opS trivial rfl (OpW.indexE (a' := a11) slice_67 e7 e5 h1 h2 h3 h4 ?_)
   obtain ⟨x13, h1, h⟩ := h
   refine RL.opS trivial rfl (OpW.load1 (v := Sl.v x13) one_55 rfl h1 ?_)
   refine RL.opS trivial rfl (OpW.assign (v := Sl.v x13) rfl ?_)
   refine RL.nil ?_
   refine CW.seq ?_
   refine CW.region ?_
   refine RL.opS trivial rfl (OpW.move (v := .int .i64 s1.1) e4 ?_)
   refine RL.opS trivial rfl (OpW.move (v := Sl.v x13) rfl ?_)
   refine RL.opS trivial rfl (OpW.len (s := x13) slice_55 rfl ?_)
   refine RL.opS trivial rfl (OpW.bin (k := .i64) (a := s1.1) (b := (x13.len : Int)) (v := .int .i64 (IntKind.i64.wrap (s1.1 + (x13.len : Int)))) rfl rfl rfl ?_)
   refine RL.opS trivial rfl (OpW.assign (v := .int .i64 (IntKind.i64.wrap (s1.1 + (x13.len : Int)))) rfl ?_)
   refine RL.nil ?_
   refine CW.seq ?_
   refine CW.region ?_
   refine RL.opS trivial rfl (OpW.move (v := .int .i64 (IntKind.i64.wrap (s1.1 + (x13.len : Int)))) rfl ?_)
   refine RL.opS trivial rfl (OpW.bin (k := .i64) (a := (IntKind.i64.wrap (s1.1 + (x13.len : Int)))) (b := 0) (v := .bool (decide ((IntKind.i64.wrap (s1.1 + (x13.len : Int))) < 0))) rfl rfl rfl ?_)
   refine RL.nil ?_
   obtain ⟨ha, hc⟩ := h
   refine CW.cond (b := (decide ((IntKind.i64.wrap (s1.1 + (x13.len : Int))) < 0))) rfl (fun hb14 => ?_) (fun hb14 => ?_)
   ·have h := ha hb14; clear ha hc
    refine CW.region ?_
    exact h.elim
   ·have h := hc hb14; clear ha hc
    refine CW.skip ?_
    exact ⟨(IntKind.i64.wrap (s1.1 + (x13.len : Int))), ⟨rfl, e6, e7, e8, e5⟩, h⟩
 ·have h := hc hb9; clear ha hc
  refine CW.exit ?_
  refine CW.seq ?_
  refine CW.region ?_
  refine RL.opS trivial rfl (OpW.move (v := .int .i64 s1.1) e4 ?_)
  refine RL.opS trivial rfl (OpW.callR (al := [Sl.v nilSl, .int .i64 s1.1]) Try.func21 fb_21 fn_21 rfl h (fun x24 w25 h => ?_))
  refine RL.opS trivial rfl (OpW.assign (v := Sl.v x24) rfl ?_)
  refine RL.nil ?_
  refine CW.seq ?_
  refine CW.seq ?_
  refine CW.region ?_
  refine RL.opS trivial rfl (OpW.move (v := Sl.v p0) e6 ?_)
  refine RL.opS trivial rfl (OpW.len (s := p0) slice_67 rfl ?_)
  refine RL.opS trivial rfl (OpW.move (v := .int .i64 0) rfl ?_)
  refine RL.nil ?_
  refine CW.block ?_
  obtain ⟨I39, mu40, hI, hs⟩ := h
  refine CW.loop (σ := Sl × Int) (fun s26 ρ => ρ 6 = Sl.v s26.1 ∧ ρ 27 = .int .i64 s26.2 ∧ ρ 25 = Sl.v p0 ∧ ρ 26 = .int .i64 (p0.len : Int)) I39 mu40 (x24, 0) ⟨rfl, rfl, rfl, rfl⟩ hI ?_
  rintro s26 ρ w27 ⟨e29, e30, e31, e32⟩ hI
  have h := hs s26 w27 hI
  clear hs hI
  refine CW.seq ?_
  refine CW.region ?_
  refine RL.opS trivial rfl (OpW.bin (k := .i64) (a := s26.2) (b := (p0.len : Int)) (v := .bool (decide (s26.2 < (p0.len : Int)))) e30 e32 rfl ?_)
  refine RL.nil ?_
  refine CW.seq ?_
  obtain ⟨ha, hc⟩ := h
  refine CW.cond (b := (decide (s26.2 < (p0.len : Int)))) rfl (fun hb33 => ?_) (fun hb33 => ?_)
  ·have h := ha hb33; clear ha hc
   refine CW.skip ?_
   refine CW.seq ?_
   refine CW.block ?_
   refine CW.seq ?_
   refine CW.region ?_
   obtain ⟨a34_, a34, h1, h2, h3, h4, h⟩ := h
   refine RL.opS trivial rfl (OpW.indexE (a' := a34) slice_67 e31 e30 h1 h2 h3 h4 ?_)
   obtain ⟨x36, h1, h⟩ := h
   refine RL.opS trivial rfl (OpW.load1 (v := Sl.v x36) one_55 rfl h1 ?_)
   refine RL.opS trivial rfl (OpW.assign (v := Sl.v x36) rfl ?_)
   refine RL.nil ?_
   refine CW.region ?_
   refine RL.opS trivial rfl (OpW.move (v := Sl.v s26.1) e29 ?_)
   refine RL.opS trivial rfl (OpW.move (v := Sl.v x36) rfl ?_)
   obtain ⟨x37, w38, hr_, h⟩ := h
   refine RL.opS trivial rfl (OpW.appendL (v := Sl.v x37) rfl hr_ ?_)
   refine RL.opS trivial rfl (OpW.assign (v := Sl.v x37) rfl ?_)
   refine RL.nil ?_
   refine CW.region ?_
   refine RL.opS trivial rfl (OpW.bin (k := .i64) (a := s26.2) (b := 1) (v := .int .i64 (IntKind.i64.wrap (s26.2 + 1))) e30 rfl rfl ?_)
   refine RL.opS trivial rfl (OpW.move (v := .int .i64 (IntKind.i64.wrap (s26.2 + 1))) rfl ?_)
   refine RL.nil ?_
   exact ⟨(x37, (IntKind.i64.wrap (s26.2 + 1))), ⟨rfl, rfl, e31, e32⟩, h⟩
  ·have h := hc hb33; clear ha hc
   refine CW.exit ?_
   refine CW.seq ?_
   refine CW.region ?_
   refine RL.opS trivial rfl (OpW.move (v := Sl.v s26.1) e29 ?_)
   refine RL.opS trivial rfl (OpW.assign (v := Sl.v s26.1) rfl ?_)
   refine RL.nil ?_
   refine CW.ret ?_
   exact ret_intro (res1 rfl rfl) ⟨s26.1, rfl, h⟩
end Go.Proofs.Ytijopkmclcbehaa
end
section
/- The typed readings of the functions, and that the program meets each: written by gen.py (a program of this session). -/
namespace Go.Proofs.Ytijopkmclcbehaa
open Go.Lift
set_option maxRecDepth 100000 in
set_option maxHeartbeats 4000000 in
theorem s21_calls (K : Sl → World → Prop) (p0 : Sl) (p1 : Int) (w : World) (h : s21 K p0 p1 w) :
  Calls Try.prog 21 #[Sl.v p0, .int .i64 p1] w (Ret r21 K) := by
 unfold s21 at h
 refine calls_of_CW (n := 27) Try.func21 rfl rfl rfl ?_
 refine CW.seq ?_
 refine CW.region ?_
 refine RL.opS trivial rfl (OpW.assign (v := Sl.v nilSl) rfl ?_)
 refine RL.nil ?_
 refine jn_elim h ?_; clear h; intro k16 hk17 h
 refine CW.seqJ (A := Unit) (fun s3 ρ => ρ 0 = Sl.v p0 ∧ ρ 1 = .int .i64 p1) k16 ?_ ?_
 ·rintro s3 ρ w4 ⟨e5, e6⟩ h
  subst hk17
  refine jn_elim h ?_; clear h; intro k14 hk15 h
  refine CW.seqJ (A := Sl) (fun s11 ρ => ρ 0 = Sl.v s11) k14 ?_ ?_
  ·rintro s11 ρ w12 e13 h
   subst hk15
   refine CW.seq ?_
   refine CW.region ?_
   refine RL.opS trivial rfl (OpW.move (v := Sl.v s11) e13 ?_)
   refine RL.opS trivial rfl (OpW.assign (v := Sl.v s11) rfl ?_)
   refine RL.nil ?_
   refine CW.ret ?_
   exact ret_intro (res1 rfl rfl) ⟨s11, rfl, h⟩
  ·clear hk15
   refine CW.seq ?_
   refine CW.region ?_
   refine RL.opS trivial rfl (OpW.move (v := .int .i64 p1) e6 ?_)
   refine RL.opS trivial rfl (OpW.move (v := Sl.v p0) e5 ?_)
   refine RL.opS trivial rfl (OpW.cap (s := p0) slice_55 rfl ?_)
   refine RL.opS trivial rfl (OpW.move (v := Sl.v p0) e5 ?_)
   refine RL.opS trivial rfl (OpW.len (s := p0) slice_55 rfl ?_)
   refine RL.opS trivial rfl (OpW.bin (k := .i64) (a := (p0.cap : Int)) (b := (p0.len : Int)) (v := .int .i64 (IntKind.i64.wrap ((p0.cap : Int) - (p0.len : Int)))) rfl rfl rfl ?_)
   refine RL.opS trivial rfl (OpW.bin (k := .i64) (a := p1) (b := (IntKind.i64.wrap ((p0.cap : Int) - (p0.len : Int)))) (v := .int .i64 (IntKind.i64.wrap (p1 - (IntKind.i64.wrap ((p0.cap : Int) - (p0.len : Int)))))) rfl rfl rfl ?_)
   refine RL.opS trivial rfl (OpW.assign (v := .int .i64 (IntKind.i64.wrap (p1 - (IntKind.i64.wrap ((p0.cap : Int) - (p0.len : Int)))))) rfl ?_)
   refine RL.nil ?_
   refine CW.seq ?_
   refine CW.region ?_
   refine RL.opS trivial rfl (OpW.move (v := .int .i64 (IntKind.i64.wrap (p1 - (IntKind.i64.wrap ((p0.cap : Int) - (p0.len : Int)))))) rfl ?_)
   refine RL.opS trivial rfl (OpW.bin (k := .i64) (a := (IntKind.i64.wrap (p1 - (IntKind.i64.wrap ((p0.cap : Int) - (p0.len : Int)))))) (b := 0) (v := .bool (decide (0 < (IntKind.i64.wrap (p1 - (IntKind.i64.wrap ((p0.cap : Int) - (p0.len : Int)))))))) rfl rfl rfl ?_)
   refine RL.nil ?_
   obtain ⟨ha, hc⟩ := h
   refine CW.cond (b := (decide (0 < (IntKind.i64.wrap (p1 - (IntKind.i64.wrap ((p0.cap : Int) - (p0.len : Int)))))))) rfl (fun hb8 => ?_) (fun hb8 => ?_)
   ·have h := ha hb8; clear ha hc
    refine CW.region ?_
    refine RL.opS trivial rfl (OpW.move (v := Sl.v p0) e5 ?_)
    refine RL.opS trivial rfl (OpW.move (v := Sl.v p0) e5 ?_)
    refine RL.opS trivial rfl (OpW.cap (s := p0) slice_55 rfl ?_)
    obtain ⟨⟨h1, h2, h3⟩, h⟩ := h
    refine RL.opS trivial rfl (OpW.sliceSl (l := 0) (h := (p0.cap : Int)) slice_55 rfl rfl ⟨_, rfl⟩ h1 h2 (.inr h3) ?_)
    refine RL.opS trivial rfl (OpW.move (v := .int .i64 (IntKind.i64.wrap (p1 - (IntKind.i64.wrap ((p0.cap : Int) - (p0.len : Int)))))) rfl ?_)
    obtain ⟨x9, w10, hr_, h⟩ := h
    refine RL.opS trivial rfl (OpW.appendL (v := Sl.v x9) rfl hr_ ?_)
    refine RL.opS trivial rfl (OpW.move (v := Sl.v p0) e5 ?_)
    refine RL.opS trivial rfl (OpW.len (s := p0) slice_55 rfl ?_)
    obtain ⟨⟨h1, h2, h3⟩, h⟩ := h
    refine RL.opS trivial rfl (OpW.sliceSl (l := 0) (h := (p0.len : Int)) slice_55 rfl rfl ⟨_, rfl⟩ h1 h2 (.inr h3) ?_)
    refine RL.opS trivial rfl (OpW.assign (v := Sl.v (x9.cut 3 0 (p0.len : Int) x9.cap)) rfl ?_)
    refine RL.nil ?_
    exact ⟨(x9.cut 3 0 (p0.len : Int) x9.cap), rfl, h⟩
   ·have h := hc hb8; clear ha hc
    refine CW.skip ?_
    exact ⟨p0, e5, h⟩
 ·clear hk17
  refine CW.seq ?_
  refine CW.region ?_
  refine RL.opS trivial rfl (OpW.move (v := .int .i64 p1) rfl ?_)
  refine RL.opS trivial rfl (OpW.bin (k := .i64) (a := p1) (b := 0) (v := .bool (decide (p1 < 0))) rfl rfl rfl ?_)
  refine RL.nil ?_
  obtain ⟨ha, hc⟩ := h
  refine CW.cond (b := (decide (p1 < 0))) rfl (fun hb2 => ?_) (fun hb2 => ?_)
  ·have h := ha hb2; clear ha hc
   refine CW.region ?_
   exact h.elim
  ·have h := hc hb2; clear ha hc
   refine CW.skip ?_
   exact ⟨(), ⟨rfl, rfl⟩, h⟩
end Go.Proofs.Ytijopkmclcbehaa
end
section
/- How pools come to be. -/
namespace Go.Proofs.Ytijopkmclcbehaa
open Go.Lift Go.Lift.Pool Go.RowKit
theorem Own.lower {w : World} {base base' : Nat} {e : TypeId} {size : Nat} {s : Sl} {xs : List Value} (h : Own w base e size s xs) (hb : base' ≤ base) : Own w base' e size s xs := by
 refine ⟨h.1, ?_⟩
 rcases h.2 with h | ⟨g, cap, cur, h1, h2, h3⟩
 ·exact .inl h
 ·exact .inr ⟨g, cap, cur, h1, Nat.le_trans hb h2, h3⟩
theorem mkz_55' : mkCells Try.prog 55 = some (60, 3, 40, [Value.int .i64 0, Value.bool false, Value.slice none 0 0]) := by kernel_rfl
theorem grow_ok (w : World) (k : Nat) (h0 : 0 < k) (hk : k ≤ 1000) : Calls Try.prog 21 #[nilSl.v, .int .i64 (k : Int)] w (Ret r21 fun x w' => x.len = 0 ∧ Own w' w.heap.size 60 3 x [] ∧ Ext w w') := by
 apply s21_calls
 refine jn_of fun k1 hk1 => ⟨fun h => absurd (of_decide_eq_true h) (by omega), fun _ => ?_⟩
 rw [hk1]
 refine jn_of fun k2 hk2 => ?_
 have e0 : IntKind.i64.wrap ((k : Int) - IntKind.i64.wrap (((nilSl.cap : Nat) : Int) - ((nilSl.len : Nat) : Int))) = (k : Int) := by
  have : IntKind.i64.wrap (((nilSl.cap : Nat) : Int) - ((nilSl.len : Nat) : Int)) = 0 := by decide
  rw [this, w64_eq (by omega) (by omega)]; omega
 rw [e0]
 refine ⟨fun _ => ?_, fun hz => absurd (of_decide_eq_false hz) (by omega)⟩
 obtain ⟨hu, i, z, hi, hz, hs, hby, hc⟩ := mkCells_eq mkz_55'
 have hu3 : Try.prog.underlying 3 = some (.int .i64) := Try.underlying3
 have hrun := Go.Lib.run_append_grow_zeros (P := Try.prog) w 55 3 55 60 i z .i64 .i64 hu hu3 hi hz none 0 0 [] rfl k h0 (by omega) (by omega) (by omega) (by rw [hby]; omega)
  (by rw [hby]; have := nextslicecap_le (need := 0 + k) (old := 0) (by omega); omega)
 have hz1 : z.cells.size = 3 := by
  have h2 : z.cells.toList = [Value.int .i64 0, Value.bool false, Value.slice none 0 0] := hc
  have := congrArg List.length h2
  simpa using this
 have hge := grownCap_ge w (0 + k) 0 60
 have hle : grownCap w (0 + k) 0 60 ≤ maxLen := grownCap_le_maxLen w _ _ _ (by simp only [maxLen]; omega)
 refine ⟨by decide, ⟨some ⟨w.heap.size, 0, none⟩, 0 + k, grownCap w (0 + k) 0 60⟩, _, hrun, ?_⟩
 refine ⟨⟨by decide, by decide, by simp⟩, ?_⟩
 show k2 _ _
 rw [hk2]
 have hcut : Sl.cut ⟨some ⟨w.heap.size, 0, none⟩, 0 + k, grownCap w (0 + k) 0 60⟩ 3 0 (nilSl.len : Nat) (grownCap w (0 + k) 0 60 : Nat) = ⟨some ⟨w.heap.size, 0, none⟩, 0, grownCap w (0 + k) 0 60⟩ := by
  simp [Sl.cut, Addr.add]
 refine ⟨by rw [hcut], ?_, Below.alloc (Below.drew (Ext.refl w)) (Nat.le_refl _) _⟩
 rw [hcut]
 refine Own.made (w := w.drew) (c := grownCap w (0 + k) 0 60) (cs := (#[] ++ Builtin.zeroCells z.cells k ++ Builtin.zeroCells z.cells (grownCap w (0 + k) 0 60 - (0 + k)) : Array Value).toList) rfl rfl (Nat.le_refl _) ?_ hle
 rw [Array.length_toList, Array.size_append, Array.size_append, size_zeroCells, size_zeroCells, hz1]
 show 0 + k * 3 + _ = _
 omega

theorem concat_ok (w : World) (b : Nat) (s t : Sl) (olds news : List Value) (hB : Blk w b 55 [s.v, t.v]) (hs : AtO w s.a olds) (ht : AtO w t.a news) (hsl : olds.length = s.len * 3) (htl : news.length = t.len * 3)
  (h1 : ∀ u ∈ olds, u.oneCell' = true) (h2 : ∀ u ∈ news, u.oneCell' = true) (h0 : 0 < t.len) (hl : s.len + t.len ≤ 1000) :
  Calls Try.prog 16 #[(⟨some ⟨b, 0, none⟩, 2, 2⟩ : Sl).v] w (Ret r16 fun x w' => x.len = s.len + t.len ∧ Own w' w.heap.size 60 3 x (olds ++ news) ∧ Ext w w') := by
 apply s16_calls
 have hix : ∀ (w' : World), Ext w w' → ∀ (i : Nat), i < 2 → w'.cell? (Addr.add ⟨b, 0, none⟩ (i * 1)) = some ((if i = 0 then s else t).v) := by
  intro w' hx i hi
  rw [add_plain]
  refine (hB.ext hx).cell ?_
  rcases Nat.lt_or_ge i 1 with h | h
  ·obtain rfl : i = 0 := by omega
   rfl
  ·obtain rfl : i = 1 := by omega
   rfl
 refine ⟨fun st w' => w' = w ∧ (st = (0, 0) ∨ st = ((s.len : Int), 1) ∨ st = (((s.len + t.len : Nat) : Int), 2)), fun st _ => 2 - st.2.toNat, ⟨rfl, .inl rfl⟩, ?_⟩
 rintro st w' ⟨rfl, hst⟩
 refine ⟨fun hlt => ?_, fun hge => ?_⟩
 ·have hlt := of_decide_eq_true hlt
  rcases hst with rfl | rfl | rfl
  ·refine jn_of fun k hk => ?_
   refine ⟨⟨b, 0, none⟩, _, rfl, by show (0 : Int) ≤ 0; decide, by show (0 : Int) < ((2 : Nat) : Int); decide, rfl, s, hix w' (Ext.refl _) 0 (by decide), ?_⟩
   have e : IntKind.i64.wrap ((0 : Int) + (s.len : Int)) = (s.len : Int) := by rw [w64_eq (by omega) (by omega)]; omega
   refine ⟨fun h => absurd (of_decide_eq_true h) (by simp only; rw [e]; omega), fun _ => ?_⟩
   rw [hk]
   simp only
   rw [e]
   exact ⟨⟨trivial, .inr (.inl rfl)⟩, by decide⟩
  ·refine jn_of fun k hk => ?_
   refine ⟨⟨b, 0, none⟩, _, rfl, by show (0 : Int) ≤ 1; decide, by show (1 : Int) < ((2 : Nat) : Int); decide, rfl, t, hix w' (Ext.refl _) 1 (by decide), ?_⟩
   have e : IntKind.i64.wrap ((s.len : Int) + (t.len : Int)) = ((s.len + t.len : Nat) : Int) := by rw [w64_eq (by omega) (by omega)]; omega
   refine ⟨fun h => absurd (of_decide_eq_true h) (by simp only; rw [e]; omega), fun _ => ?_⟩
   rw [hk]
   simp only
   rw [e]
   exact ⟨⟨trivial, .inr (.inr rfl)⟩, by decide⟩
  ·exact absurd (show (2 : Int) < ((2 : Nat) : Int) from hlt) (by decide)
 ·have hge := of_decide_eq_false hge
  rcases hst with rfl | rfl | rfl
  ·exact absurd (show (0 : Int) < ((2 : Nat) : Int) by decide) hge
  ·exact absurd (show (1 : Int) < ((2 : Nat) : Int) by decide) hge
  ·refine cR_of (grow_ok w' (s.len + t.len) (by omega) hl) fun x w1 hh => ?_
   obtain ⟨hx0, ho1, hx1⟩ := hh
   refine ⟨fun st w2 => Ext w' w2 ∧ ∃ (j : Nat) (xs : List Value), st.2 = (j : Int) ∧ Own w2 w'.heap.size 60 3 st.1 xs ∧ ((j = 0 ∧ xs = [] ∧ st.1.len = 0) ∨ (j = 1 ∧ xs = olds ∧ st.1.len = s.len) ∨ (j = 2 ∧ xs = olds ++ news ∧ st.1.len = s.len + t.len)), fun st _ => 2 - st.2.toNat, ⟨hx1, 0, [], rfl, ho1, .inl ⟨rfl, rfl, hx0⟩⟩, ?_⟩
   rintro ⟨sl, st⟩ w2 ⟨hx2, j, xs, rfl, ho, hj⟩
   simp only at ho hj
   refine ⟨fun hlt => ?_, fun hge => ?_⟩
   ·have hlt : j < 2 := by have := of_decide_eq_true hlt; have h2 : (j : Int) < ((2 : Nat) : Int) := this; omega
    have hcell := hix w2 hx2 j hlt
    refine ⟨⟨b, 0, none⟩, _, rfl, by show (0 : Int) ≤ (j : Int); omega, by show (j : Int) < ((2 : Nat) : Int); omega, rfl, (if j = 0 then s else t), ?_, ?_⟩
    ·rw [Int.toNat_natCast]; exact hcell
    rcases hj with ⟨rfl, rfl, hl0⟩ | ⟨rfl, rfl, hl0⟩ | ⟨rfl, _⟩
    ·rw [if_pos rfl]
     refine app_ok (base := w'.heap.size) mkz_55' rfl (by decide) ho (news := olds) hsl (Ext.atO hx2 hs) h1 (by show sl.len + s.len ≤ maxLen; simp only [maxLen]; omega) (by show (sl.len + s.len) * 40 ≤ _; omega) hx2.size ?_
     intro s' w3 hl' ho' _ hB'
     have hl' : s'.len = sl.len + s.len := hl'
     refine ⟨⟨hB' _ _ hx2 (Nat.le_refl _) hx2.size, 1, olds, rfl, by simpa using ho', .inr (.inl ⟨rfl, rfl, by simp only; omega⟩)⟩, by simp only; rw [w64_eq (by omega) (by omega)]; omega⟩
    ·rw [if_neg (by decide)]
     refine app_ok (base := w'.heap.size) mkz_55' rfl (by decide) ho (news := news) htl (Ext.atO hx2 ht) h2 (by show sl.len + t.len ≤ maxLen; simp only [maxLen]; omega) (by show (sl.len + t.len) * 40 ≤ _; omega) hx2.size ?_
     intro s' w3 hl' ho' _ hB'
     have hl' : s'.len = sl.len + t.len := hl'
     refine ⟨⟨hB' _ _ hx2 (Nat.le_refl _) hx2.size, 2, _, rfl, ho', .inr (.inr ⟨rfl, rfl, by simp only; omega⟩)⟩, by simp only; rw [w64_eq (by omega) (by omega)]; omega⟩
    ·omega
   ·have hge : ¬ j < 2 := by have := of_decide_eq_false hge; have h2 : ¬ ((j : Int) < ((2 : Nat) : Int)) := this; omega
    rcases hj with ⟨rfl, _⟩ | ⟨rfl, _⟩ | ⟨rfl, rfl, hl0⟩
    ·exact absurd (by decide) hge
    ·exact absurd (by decide) hge
    ·exact ⟨hl0, ho, hx2⟩

theorem newP_wf {n : Nat} (h0 : 0 < n) (h1 : n ≤ 64) : (newP n).Wf := by
 refine ⟨by simpa [newP] using h0, by simpa [newP] using h1, by simpa [newP] using h0, ?_, ?_⟩
 ·intro f hf
  rw [List.eq_of_mem_replicate hf]
  exact .inl rfl
 ·intro f hf
  rw [List.eq_of_mem_replicate hf]
  simp [emF]
theorem newP_agree (n : Nat) : Agree [] ((newP n).fr.map (·.page)) := by
 have hno : ∀ (k : Nat) (m : Int), 0 ≤ m → ((newP n).fr.map (·.page))[k]? ≠ some m := by
  intro k m hm hk
  have := List.mem_of_getElem? hk
  obtain ⟨f, hf, rfl⟩ := List.mem_map.1 this
  rw [List.eq_of_mem_replicate hf] at hm
  exact absurd hm (by decide)
 refine ⟨by simp, fun i j m hm hi _ => absurd hi (hno i m hm), fun m i => ⟨fun h => (by cases h), ?_⟩⟩
 rintro ⟨hm, k, _, hk⟩
 exact absurd hk (hno k m hm)
def emC (n : Nat) : List Value := (List.replicate n ((emF, nilSl) : FS)).flatMap fsC
theorem emC_len (n : Nat) : (emC n).length = n * 3 := by unfold emC; rw [flatMap_len fsC fsC_len, List.length_replicate]
theorem emC_one (n : Nat) : ∀ u ∈ emC n, u.oneCell' = true := by
 intro u hu
 unfold emC at hu
 obtain ⟨q, _, hq⟩ := List.mem_flatMap.1 hu
 exact fsC_one q u hq
theorem emC_succ (n : Nat) : emC (n + 1) = emC n ++ fsC (emF, nilSl) := by
 unfold emC
 rw [List.replicate_succ', List.flatMap_append]
 simp
theorem new_bad (w : World) (n : Int) (h : n < 1 ∨ 64 < n) : Calls Try.prog 6 #[.int .i64 n] w (Ret r6 fun x w' => x = (none, 1) ∧ w = w') := by
 apply s6_calls
 refine jn_of fun k hk => ?_
 have key : k true w := by
  rw [hk]
  exact ⟨fun _ => ⟨rfl, rfl⟩, fun h => absurd h (by decide)⟩
 refine ⟨fun _ => key, fun h1 => ?_⟩
 have h1 := of_decide_eq_false h1
 rw [decide_eq_true (show 64 < n by omega)]; exact key
theorem new_ok (w : World) (n : Nat) (h0 : 0 < n) (h1 : n ≤ 64) : Calls Try.prog 6 #[.int .i64 (n : Int)] w (Ret r6 fun x w' => ∃ pb g r, x = (pp pb, 0) ∧ PAt w' (fun k => w.heap.size ≤ k) pb g r (newP n) ∧ Ext w w') := by
 apply s6_calls
 refine jn_of fun k hk => ?_
 have key : k false w := by
  rw [hk]
  refine ⟨fun h => absurd h (by decide), fun _ => ?_⟩
  intro r w1 hr hm1 hx1 hrl b w2 hb hw2
  have hx2 : Ext w1 w2 := Ext.new hw2
  have hx02 := hx1.trans hx2
  have hB2 : Blk w2 b 57 _ := Blk.new hb hw2
  have hsz1 := hx1.size
  have hbl := hB2.lt
  refine ⟨fun st w' => Ext w w' ∧ w2.heap.size ≤ w'.heap.size ∧ MapAt w' r [] ∧ ∃ (i : Nat) (sl : Sl), i ≤ n ∧ st = (i : Int) ∧ sl.len = i ∧ Own w' w2.heap.size 60 3 sl (emC i) ∧ Blk w' b 57 [sl.v, .int .i64 0, .map (some r), .int .i64 0, .int .i64 0], fun st _ => n - st.toNat,
   ⟨hx02, Nat.le_refl _, hm1.fr (X := fun _ => False) (Fr.of hx2) (fun h => h), 0, nilSl, Nat.zero_le _, rfl, rfl, Own.nil _ _ _ _, hB2⟩, ?_⟩
  rintro st w3 ⟨hx3, hs3, hm3, i, sl, hi, rfl, hsl, ho, hB3⟩
  refine ⟨fun hlt => ?_, fun hge => ?_⟩
  ·have hlt : i < n := by have := of_decide_eq_true hlt; omega
   refine ⟨sl, by rw [add_plain]; exact hB3.cell rfl, rfl, fsC_one (emF, nilSl), fun b4 w4 hb4 hw4 => ?_⟩
   intro b5 w5 hb5 hw5
   have hx4 : Ext w3 w4 := Ext.new hw4
   have hx5 : Ext w4 w5 := Ext.new hw5
   have hx35 := hx4.trans hx5
   have hat : AtO w5 (⟨some ⟨b4, 0, none⟩, 1, 1⟩ : Sl).a (fsC (emF, nilSl)) := Ext.at hx5 (At.new hb4 hw4)
   refine cR_of (concat_ok w5 b5 sl ⟨some ⟨b4, 0, none⟩, 1, 1⟩ (emC i) (fsC (emF, nilSl)) (Blk.new hb5 hw5) (Own.ext hx35 ho).at hat (by rw [emC_len, hsl]) rfl (emC_one i) (fsC_one _) (by show 0 < 1; decide) (by rw [hsl]; show i + 1 ≤ 1000; omega)) fun x w6 hh => ?_
   obtain ⟨hxl, ho6, hx6⟩ := hh
   have hx36 := hx35.trans hx6
   have hB6 := hB3.ext hx36
   have hs36 := hx36.size
   have hs35 := hx35.size
   show st1 _ _ _ _
   rw [add_plain]
   refine st1_blk hB6 (by simp) fun w7 hB7 hf7 => ?_
   have ho6' : Own w6 w2.heap.size 60 3 x (emC (i + 1)) := by rw [emC_succ]; exact Own.lower ho6 (by omega)
   have ho7 : Own w7 w2.heap.size 60 3 x (emC (i + 1)) := by
    refine hf7.own ?_ ho6'
    intro a ha e
    rcases ho6'.2 with ⟨h5, _⟩ | ⟨g, c, cur, h5, h6, _⟩
    ·obtain ⟨xa, xl, xc⟩ := x
     simp only [Value.slice.injEq] at h5
     simp only at ha
     rw [h5.1] at ha; cases ha
    ·obtain ⟨xa, xl, xc⟩ := x
     simp only [Value.slice.injEq] at h5
     simp only at ha
     rw [h5.1] at ha
     cases ha
     have e : g = b := e
     omega
   rw [w64_eq (by omega) (by omega)]
   have hs7 := hf7.size
   refine ⟨⟨hf7.ext (hx3.trans hx36) fun k _ e => by rw [e, hb]; exact hx1.size, by omega, (hm3.fr (X := fun _ => False) (Fr.of hx36) (fun h => h)).fr hf7 (by omega), i + 1, x, by omega, by omega, by rw [hxl, hsl], ho7, hB7⟩, by simp only; omega⟩
  ·have hge : i = n := by have := of_decide_eq_false hge; omega
   subst hge
   obtain ⟨g, rest, hsa, hgb, hG, hcap⟩ := ho.blk (by omega)
   have hsle : sl = ⟨some ⟨g, 0, none⟩, i, sl.cap⟩ := by
    obtain ⟨sa, l, c⟩ := sl
    simp only at hsa hsl
    rw [hsa, hsl]
   refine ⟨b, g, r, rfl, ⟨sl.cap, rest, List.replicate i (emF, nilSl), [], newP_wf h0 h1, by simp [newP], by omega, by omega, by omega, by omega, by omega, by omega, by simp [newP]; omega, ?_, hG, hm3, newP_agree i, ?_⟩, hx3⟩
   ·have e : pc g r sl.cap (newP i) = [sl.v, .int .i64 0, .map (some r), .int .i64 0, .int .i64 0] := by
     have e2 : (⟨some ⟨g, 0, none⟩, (newP i).fr.length, sl.cap⟩ : Sl) = sl := by
      conv => rhs; rw [hsle]
      simp [newP]
     unfold pc
     rw [e2]
     rfl
    rw [e]; exact hB3
   ·intro q hq
    rw [List.eq_of_mem_replicate hq]
    exact ⟨⟨rfl, rfl⟩, fun a ha => by cases ha⟩
 refine ⟨fun h => absurd (of_decide_eq_true h) (by omega), fun _ => ?_⟩
 have : (decide (64 < (n : Int))) = false := decide_eq_false (by omega)
 rw [this]; exact key
end Go.Proofs.Ytijopkmclcbehaa
end
section
/- The typed readings of the functions, and that the program meets each: written by gen.py (a program of this session). -/
namespace Go.Proofs.Ytijopkmclcbehaa
open Go.Lift
set_option maxRecDepth 100000 in
set_option maxHeartbeats 4000000 in
theorem s7_calls (K : List Value → World → Prop) (p0 : Int) (w : World) (h : s7 K p0 w) :
  Calls Try.prog 7 #[.int .i64 p0] w (Ret r7 K) := by
 unfold s7 at h
 refine calls_of_CW (n := 18) Try.func7 rfl rfl rfl ?_
 refine CW.seq ?_
 refine CW.region ?_
 obtain ⟨b1, hb1_⟩ : ∃ b_, b_ = w.heap.size := ⟨_, rfl⟩
 obtain ⟨w2, hw2_⟩ : ∃ w_, w_ = w.alloc (.cells (List.toArray [Value.slice none 0 0, Value.int .i64 0, Value.int .i64 0, Value.int .i64 0]) 31) := ⟨_, rfl⟩
 have h := h b1 w2 hb1_ hw2_
 refine RL.opS trivial rfl (OpW.allocE (b := b1) zero_31 hb1_ hw2_ ?_)
 refine RL.nil ?_
 refine CW.seq ?_
 refine CW.region ?_
 refine RL.opS trivial rfl (OpW.buildL (vs := []) (cs := [Value.slice none 0 0, Value.int .i64 0, Value.int .i64 0, Value.int .i64 0]) (by rfl) (fun _ => by kernel_rfl) ?_)
 obtain ⟨hl_b3, ho_b3, h⟩ := h
 obtain ⟨b3, hb3_⟩ : ∃ b_, b_ = w2.heap.size := ⟨_, rfl⟩
 obtain ⟨w4, hw4_⟩ : ∃ w_, w_ = w2.alloc (.cells (List.toArray [Value.slice none 0 0, Value.int .i64 0, Value.int .i64 0, Value.int .i64 0]) 31) := ⟨_, rfl⟩
 have h := h b3 w4 hb3_ hw4_
 refine RL.opS trivial rfl (OpW.allocZ (b := b3) zero_31 hb3_ ?_)
 refine RL.opN trivial (OpW.storeF (zs := [Value.slice none 0 0, Value.int .i64 0, Value.int .i64 0, Value.int .i64 0]) (cs := [Value.slice none 0 0, Value.int .i64 0, Value.int .i64 0, Value.int .i64 0]) size_31 rfl rfl hl_b3 (by decide) ho_b3 hb3_ hw4_ ?_)
 refine RL.nil ?_
 refine CW.seq ?_
 refine CW.seq ?_
 refine CW.region ?_
 refine RL.opS trivial rfl (OpW.assign (v := .int .i64 0) rfl ?_)
 refine RL.nil ?_
 refine CW.block ?_
 obtain ⟨I22, mu23, hI, hs⟩ := h
 refine CW.loop (σ := Int) (fun s5 ρ => ρ 4 = .int .i64 s5 ∧ ρ 0 = .int .i64 p0 ∧ ρ 2 = .pointer (some ⟨b1, 0, none⟩) ∧ ρ 3 = .pointer (some ⟨b3, 0, none⟩)) I22 mu23 0 ⟨rfl, rfl, rfl, rfl⟩ hI ?_
 rintro s5 ρ w6 ⟨e8, e9, e10, e11⟩ hI
 have h := hs s5 w6 hI
 clear hs hI
 refine CW.seq ?_
 refine CW.seq ?_
 refine CW.region ?_
 refine RL.opS trivial rfl (OpW.move (v := .int .i64 s5) e8 ?_)
 refine RL.opS trivial rfl (OpW.move (v := .int .i64 p0) e9 ?_)
 refine RL.opS trivial rfl (OpW.bin (k := .i64) (a := s5) (b := p0) (v := .bool (decide (s5 < p0))) rfl rfl rfl ?_)
 refine RL.nil ?_
 obtain ⟨ha, hc⟩ := h
 refine CW.cond (b := (decide (s5 < p0))) rfl (fun hb12 => ?_) (fun hb12 => ?_)
 ·have h := ha hb12; clear ha hc
  refine CW.skip ?_
  refine CW.seq ?_
  refine CW.block ?_
  refine CW.region ?_
  refine RL.opS trivial rfl (OpW.fieldAddr (off := 0) field_31_0 e11 ?_)
  obtain ⟨x13, h1, h⟩ := h
  refine RL.opS trivial rfl (OpW.load1 (v := Sl.v x13) one_29 rfl h1 ?_)
  refine RL.opS trivial rfl (OpW.buildL (vs := [(0, .int .i64 (-1))]) (cs := [.int .i64 (-1), Value.bool false, str []]) (by rfl) (fun _ => by kernel_rfl) ?_)
  obtain ⟨hl_, ho_, h⟩ := h
  obtain ⟨b14, hb14_⟩ : ∃ b_, b_ = w6.heap.size := ⟨_, rfl⟩
  obtain ⟨w15, hw15_⟩ : ∃ w_, w_ = w6.alloc (.cells (List.toArray [.int .i64 (-1), Value.bool false, str []]) 52) := ⟨_, rfl⟩
  have h := h b14 w15 hb14_ hw15_
  refine RL.opS trivial rfl (OpW.buildSliceE (vs := [(0, aggv [.int .i64 (-1), Value.bool false, str []])]) (cs := [.int .i64 (-1), Value.bool false, str []]) (by rfl) (fillOne mkz_29 (by simp) (by decide) (by decide) hl_) hb14_ hw15_ ?_)
  obtain ⟨x16, w17, hr_, h⟩ := h
  refine RL.opS trivial rfl (OpW.appendL (v := Sl.v x16) rfl hr_ ?_)
  refine RL.opS trivial rfl (OpW.fieldAddr (off := 0) field_31_0 e11 ?_)
  obtain ⟨u_, h1, h2, h⟩ := h
  obtain ⟨w18, hw18_⟩ : ∃ w_, w_ = w17.setCell (Addr.add ⟨b3, 0, none⟩ 0) (Sl.v x16) := ⟨_, rfl⟩
  have h := h w18 hw18_
  refine RL.opN trivial (OpW.store1E (v := Sl.v x16) size_29 rfl rfl rfl h1 h2 hw18_ ?_)
  refine RL.nil ?_
  refine CW.region ?_
  refine RL.opS trivial rfl (OpW.move (v := .int .i64 s5) e8 ?_)
  refine RL.opS trivial rfl (OpW.bin (k := .i64) (a := s5) (b := 1) (v := .int .i64 (IntKind.i64.wrap (s5 + 1))) rfl rfl rfl ?_)
  refine RL.opS trivial rfl (OpW.assign (v := .int .i64 (IntKind.i64.wrap (s5 + 1))) rfl ?_)
  refine RL.nil ?_
  exact ⟨(IntKind.i64.wrap (s5 + 1)), ⟨rfl, e9, e10, e11⟩, h⟩
 ·have h := hc hb12; clear ha hc
  refine CW.exit ?_
  refine CW.seq ?_
  refine CW.region ?_
  obtain ⟨x19, h1, h2, h⟩ := h
  refine RL.opS trivial rfl (OpW.loadA agg_31 e11 h1 h2 ?_)
  obtain ⟨g_, o_, e_, cur_, ha_, h1, h2, h3, h4, h⟩ := h
  obtain ⟨w20, hw20_⟩ : ∃ w_, w_ = w6.setRow g_ (cur_.toList.take o_ ++ x19 ++ cur_.toList.drop (o_ + List.length x19)).toArray := ⟨_, rfl⟩
  have h := h w20 hw20_
  refine RL.opN trivial (OpW.storeAE (cs := x19) size_31 e10 rfl ha_ h1 h2 h3 h4 hw20_ ?_)
  refine RL.nil ?_
  refine CW.ret ?_
  obtain ⟨x21, hc1, hc2, h⟩ := h
  exact ret_intro (res1c rfl agg_31 e10 hc1 hc2) ⟨x21, rfl, h⟩
end Go.Proofs.Ytijopkmclcbehaa
end
section
/- The typed readings of the functions, and that the program meets each: written by gen.py (a program of this session). -/
namespace Go.Proofs.Ytijopkmclcbehaa
open Go.Lift
set_option maxRecDepth 100000 in
set_option maxHeartbeats 4000000 in
theorem s9_calls (K : List Value × List UInt8 × Bool → World → Prop) (p0 : List Value) (p1 : Int) (w : World) (h : s9 K p0 p1 w) :
  Calls Try.prog 9 #[aggv p0, .int .i64 p1] w (Ret r9 K) := by
 unfold s9 at h
 refine calls_of_CW (n := 37) Try.func9 rfl rfl rfl ?_
 refine CW.seq ?_
 refine CW.region ?_
 obtain ⟨b1, hb1_⟩ : ∃ b_, b_ = w.heap.size := ⟨_, rfl⟩
 obtain ⟨w2, hw2_⟩ : ∃ w_, w_ = w.alloc (.cells (List.toArray p0) 31) := ⟨_, rfl⟩
 have h := h b1 w2 hb1_ hw2_
 refine RL.opS trivial rfl (OpW.boxE (cs := p0) (rfl) hb1_ hw2_ ?_)
 obtain ⟨b3, hb3_⟩ : ∃ b_, b_ = w2.heap.size := ⟨_, rfl⟩
 obtain ⟨w4, hw4_⟩ : ∃ w_, w_ = w2.alloc (.cells (List.toArray [Value.slice none 0 0, Value.int .i64 0, Value.int .i64 0, Value.int .i64 0]) 31) := ⟨_, rfl⟩
 have h := h b3 w4 hb3_ hw4_
 refine RL.opS trivial rfl (OpW.allocE (b := b3) zero_31 hb3_ hw4_ ?_)
 refine RL.opS trivial rfl (OpW.assign (v := str []) rfl ?_)
 refine RL.opS trivial rfl (OpW.assign (v := .bool false) rfl ?_)
 refine RL.nil ?_
 refine CW.seq ?_
 refine CW.region ?_
 refine RL.opS trivial rfl (OpW.assign (v := .int .i64 (-1)) rfl ?_)
 refine RL.nil ?_
 refine jn_elim h ?_; clear h; intro k44 hk45 h
 refine CW.seqJ (A := Int) (fun s10 ρ => ρ 7 = .int .i64 s10 ∧ ρ 2 = .pointer (some ⟨b1, 0, none⟩) ∧ ρ 4 = .pointer (some ⟨b3, 0, none⟩)) k44 ?_ ?_
 ·rintro s10 ρ w11 ⟨e12, e13, e14⟩ h
  subst hk45
  refine CW.seq ?_
  refine CW.seq ?_
  refine CW.region ?_
  refine RL.opS trivial rfl (OpW.move (v := .int .i64 s10) e12 ?_)
  refine RL.opS trivial rfl (OpW.bin (k := .i64) (a := s10) (b := 0) (v := .bool (decide (s10 < 0))) rfl rfl rfl ?_)
  refine RL.nil ?_
  obtain ⟨ha, hc⟩ := h
  refine CW.cond (b := (decide (s10 < 0))) rfl (fun hb15 => ?_) (fun hb15 => ?_)
  ·have h := ha hb15; clear ha hc
   refine CW.seq ?_
   refine CW.region ?_
   refine RL.opS trivial rfl (OpW.fieldAddr field_31_3 e13 ?_)
   obtain ⟨x16, h1, h⟩ := h
   refine RL.opS trivial rfl (OpW.load1 (v := .int .i64 x16) one_3 rfl h1 ?_)
   refine RL.opS trivial rfl (OpW.bin (k := .i64) (a := x16) (b := 1) (v := .int .i64 (IntKind.i64.wrap (x16 + 1))) rfl rfl rfl ?_)
   refine RL.opS trivial rfl (OpW.fieldAddr field_31_3 e13 ?_)
   obtain ⟨u_, h1, h2, h⟩ := h
   obtain ⟨w17, hw17_⟩ : ∃ w_, w_ = w11.setCell (Addr.add ⟨b1, 0, none⟩ 3) (.int .i64 (IntKind.i64.wrap (x16 + 1))) := ⟨_, rfl⟩
   have h := h w17 hw17_
   refine RL.opN trivial (OpW.store1E (v := .int .i64 (IntKind.i64.wrap (x16 + 1))) size_3 rfl rfl rfl h1 h2 hw17_ ?_)
   refine RL.nil ?_
   refine CW.seq ?_
   refine CW.region ?_
   obtain ⟨x18, h1, h2, h⟩ := h
   refine RL.opS trivial rfl (OpW.loadA agg_31 e13 h1 h2 ?_)
   obtain ⟨g_, o_, e_, cur_, ha_, h1, h2, h3, h4, h⟩ := h
   obtain ⟨w19, hw19_⟩ : ∃ w_, w_ = w17.setRow g_ (cur_.toList.take o_ ++ x18 ++ cur_.toList.drop (o_ + List.length x18)).toArray := ⟨_, rfl⟩
   have h := h w19 hw19_
   refine RL.opN trivial (OpW.storeAE (cs := x18) size_31 e14 rfl ha_ h1 h2 h3 h4 hw19_ ?_)
   refine RL.opS trivial rfl (OpW.assign (v := str []) rfl ?_)
   refine RL.opS trivial rfl (OpW.assign (v := .bool false) rfl ?_)
   refine RL.nil ?_
   refine CW.ret ?_
   obtain ⟨x20, hc1, hc2, h⟩ := h
   exact ret_intro (res3c rfl agg_31 e14 hc1 hc2 rfl rfl) ⟨(x20, [], false), rfl, h⟩
  ·have h := hc hb15; clear ha hc
   refine CW.skip ?_
   refine CW.seq ?_
   refine CW.region ?_
   refine RL.opS trivial rfl (OpW.fieldAddr field_31_2 e13 ?_)
   obtain ⟨x21, h1, h⟩ := h
   refine RL.opS trivial rfl (OpW.load1 (v := .int .i64 x21) one_3 rfl h1 ?_)
   refine RL.opS trivial rfl (OpW.bin (k := .i64) (a := x21) (b := 1) (v := .int .i64 (IntKind.i64.wrap (x21 + 1))) rfl rfl rfl ?_)
   refine RL.opS trivial rfl (OpW.fieldAddr field_31_2 e13 ?_)
   obtain ⟨u_, h1, h2, h⟩ := h
   obtain ⟨w22, hw22_⟩ : ∃ w_, w_ = w11.setCell (Addr.add ⟨b1, 0, none⟩ 2) (.int .i64 (IntKind.i64.wrap (x21 + 1))) := ⟨_, rfl⟩
   have h := h w22 hw22_
   refine RL.opN trivial (OpW.store1E (v := .int .i64 (IntKind.i64.wrap (x21 + 1))) size_3 rfl rfl rfl h1 h2 hw22_ ?_)
   refine RL.nil ?_
   refine CW.seq ?_
   refine CW.region ?_
   refine RL.opS trivial rfl (OpW.fieldAddr (off := 0) field_31_0 e13 ?_)
   obtain ⟨x23, h1, h⟩ := h
   refine RL.opS trivial rfl (OpW.load1 (v := Sl.v x23) one_29 rfl h1 ?_)
   refine RL.opS trivial rfl (OpW.move (v := .int .i64 s10) e12 ?_)
   obtain ⟨a24_, a24, h1, h2, h3, h4, h⟩ := h
   refine RL.opS trivial rfl (OpW.indexE (a' := a24) slice_29 rfl rfl h1 h2 h3 h4 ?_)
   obtain ⟨x26, h1, h2, h⟩ := h
   refine RL.opS trivial rfl (OpW.loadA agg_52 rfl h1 h2 ?_)
   obtain ⟨hl_b27, ho_b27, h⟩ := h
   obtain ⟨b27, hb27_⟩ : ∃ b_, b_ = w22.heap.size := ⟨_, rfl⟩
   obtain ⟨w28, hw28_⟩ : ∃ w_, w_ = w22.alloc (.cells (List.toArray x26) 52) := ⟨_, rfl⟩
   have h := h b27 w28 hb27_ hw28_
   refine RL.opS trivial rfl (OpW.allocZ (b := b27) zero_52 hb27_ ?_)
   refine RL.opN trivial (OpW.storeF (zs := [Value.int .i64 0, Value.bool false, str []]) (cs := x26) size_52 rfl rfl hl_b27 (by decide) ho_b27 hb27_ hw28_ ?_)
   refine RL.nil ?_
   refine CW.seq ?_
   refine CW.region ?_
   refine RL.opS trivial rfl (OpW.fieldAddr field_52_1 rfl ?_)
   obtain ⟨u_, h1, h2, h⟩ := h
   obtain ⟨w29, hw29_⟩ : ∃ w_, w_ = w28.setCell (Addr.add ⟨b27, 0, none⟩ 1) (.bool true) := ⟨_, rfl⟩
   have h := h w29 hw29_
   refine RL.opN trivial (OpW.store1E (v := .bool true) size_4 rfl rfl rfl h1 h2 hw29_ ?_)
   refine RL.nil ?_
   refine CW.seq ?_
   obtain ⟨w30, hw30_⟩ : ∃ w_, w_ = w29.drew := ⟨_, rfl⟩
   have h := h w30 hw30_
   have hx31 : ExtB (some (Addr.block ⟨b3, 0, none⟩)) w29 w30 := by rw [hw30_]; exact ExtB.of (Ext.drew _)
   refine CW.draws (m := 9) (listed := #[F,F,F,F,F,F,F,F,F]) mixed [0, 1, 2, 3, 4, 5, 6, 7, 8] (ExtB (some (Addr.block ⟨b3, 0, none⟩)) w29) rfl rfl ?_
   rw [← hw30_]
   obtain ⟨hne33, h⟩ := h
   obtain ⟨x32, h1, h2, h⟩ := h
   refine DL.takeK (listed' := #[T,F,F,F,F,F,F,F,F]) (v := aggv x32) 0 rfl rfl (by kernel_rfl) (by kernel_rfl) rfl trivial rfl hx31 (fun w_ hS_ K_ h_ => OpW.loadA agg_31 e13 h1 (hS_.at hne33 h2) h_) ?_
   refine DL.takeP (listed' := #[T,T,F,F,F,F,F,F,F]) (v := .int .i64 s10) 1 rfl rfl (by kernel_rfl) rfl trivial rfl (fun w_ K_ h_ => OpW.move (v := .int .i64 s10) e12 h_) ?_
   obtain ⟨hne35, h⟩ := h
   obtain ⟨x34, h1, h2, h⟩ := h
   refine DL.takeK (listed' := #[T,T,T,F,F,F,F,F,F]) (v := aggv x34) 2 rfl rfl (by kernel_rfl) (by kernel_rfl) rfl trivial rfl hx31 (fun w_ hS_ K_ h_ => OpW.loadA agg_52 rfl h1 (hS_.at hne35 h2) h_) ?_
   refine DL.takeP (listed' := #[T,T,T,F,T,F,F,F,F]) (v := .pointer (some (Addr.add ⟨b27, 0, none⟩ 2))) 4 rfl rfl (by kernel_rfl) rfl trivial rfl (fun w_ K_ h_ => OpW.fieldAddr field_52_2 rfl h_) ?_
   obtain ⟨hne37, h⟩ := h
   obtain ⟨x36, h1, h⟩ := h
   refine DL.takeK (listed' := #[T,T,T,F,T,T,F,F,F]) (v := str x36) 5 rfl rfl (by kernel_rfl) (by kernel_rfl) rfl trivial rfl hx31 (fun w_ hS_ K_ h_ => OpW.load1 (v := str x36) one_9 rfl (hS_.cell hne37 h1) h_) ?_
   refine DL.execS (listed' := #[T,T,T,T,T,T,F,F,F]) 3 rfl (by kernel_rfl) rfl trivial rfl (OpW.callR (al := [aggv x32, .int .i64 s10, aggv x34]) Try.func19 fb_19 fn_19 rfl h (fun x38 w39 h => ?_))
   obtain ⟨hxc_, h⟩ := h
   have hx40 := ExtB.trans_ext hx31 hxc_
   refine ⟨(fun _ _ => hx40), ?_⟩
   obtain ⟨g_, o_, e_, cur_, ha_, h1, h2, h3, h4, h⟩ := h
   obtain ⟨w41, hw41_⟩ : ∃ w_, w_ = w39.setRow g_ (cur_.toList.take o_ ++ x38 ++ cur_.toList.drop (o_ + List.length x38)).toArray := ⟨_, rfl⟩
   have h := h w41 hw41_
   refine DL.execN (listed' := #[T,T,T,T,T,T,T,F,F]) 6 rfl (by kernel_rfl) rfl trivial (OpW.storeAE (cs := x38) size_31 e14 rfl ha_ h1 h2 h3 h4 hw41_ ?_)
   have hx42 : ExtB (some (Addr.block ⟨b3, 0, none⟩)) w29 w41 := by
    rw [hw41_]
    refine ExtB.setRow hx40 ?_
    have hbk_ := congrArg Addr.block ha_; simp only [add_block] at hbk_; simp_all
   refine ⟨(fun _ _ => hx42), ?_⟩
   refine DL.takeP (listed' := #[T,T,T,T,T,T,T,T,F]) (v := str x36) 7 rfl rfl (by kernel_rfl) rfl trivial rfl (fun w_ K_ h_ => OpW.assign (v := str x36) rfl h_) ?_
   refine DL.takeP (listed' := #[T,T,T,T,T,T,T,T,T]) (v := .bool true) 8 rfl rfl (by kernel_rfl) rfl trivial rfl (fun w_ K_ h_ => OpW.assign (v := .bool true) rfl h_) ?_
   refine DL.done (by kernel_rfl) ?_
   refine CW.ret ?_
   obtain ⟨x43, hc1, hc2, h⟩ := h
   exact ret_intro (res3c rfl agg_31 e14 hc1 hc2 rfl rfl) ⟨(x43, x36, true), rfl, h⟩
 ·clear hk45
  refine CW.seq ?_
  refine CW.region ?_
  refine RL.opS trivial rfl (OpW.move (v := .int .i64 p1) rfl ?_)
  refine RL.opS trivial rfl (OpW.bin (k := .i64) (a := p1) (b := 0) (v := .bool (decide (0 ≤ p1))) rfl rfl rfl ?_)
  refine RL.nil ?_
  obtain ⟨ha, hc⟩ := h
  refine CW.cond (b := (decide (0 ≤ p1))) rfl (fun hb6 => ?_) (fun hb6 => ?_)
  ·have h := ha hb6; clear ha hc
   refine CW.region ?_
   obtain ⟨x7, h1, h2, h⟩ := h
   refine RL.opS trivial rfl (OpW.loadA agg_31 rfl h1 h2 ?_)
   refine RL.opS trivial rfl (OpW.move (v := .int .i64 p1) rfl ?_)
   refine RL.opS trivial rfl (OpW.callR (al := [aggv x7, .int .i64 p1]) Try.func18 fb_18 fn_18 rfl h (fun x8 w9 h => ?_))
   refine RL.opS trivial rfl (OpW.assign (v := .int .i64 x8) rfl ?_)
   refine RL.nil ?_
   exact ⟨x8, ⟨rfl, rfl, rfl⟩, h⟩
  ·have h := hc hb6; clear ha hc
   refine CW.skip ?_
   exact ⟨(-1), ⟨rfl, rfl, rfl⟩, h⟩
end Go.Proofs.Ytijopkmclcbehaa
end
section
/- The typed readings of the functions, and that the program meets each: written by gen.py (a program of this session). -/
namespace Go.Proofs.Ytijopkmclcbehaa
open Go.Lift
set_option maxRecDepth 100000 in
set_option maxHeartbeats 4000000 in
theorem s11_calls (K : List Value × Int → World → Prop) (p0 : List Value) (p1 : Int) (p2 : List UInt8) (w : World) (h : s11 K p0 p1 p2 w) :
  Calls Try.prog 11 #[aggv p0, .int .i64 p1, str p2] w (Ret r11 K) := by
 unfold s11 at h
 refine calls_of_CW (n := 56) Try.func11 rfl rfl rfl ?_
 refine CW.seq ?_
 refine CW.region ?_
 obtain ⟨b1, hb1_⟩ : ∃ b_, b_ = w.heap.size := ⟨_, rfl⟩
 obtain ⟨w2, hw2_⟩ : ∃ w_, w_ = w.alloc (.cells (List.toArray p0) 31) := ⟨_, rfl⟩
 have h := h b1 w2 hb1_ hw2_
 refine RL.opS trivial rfl (OpW.boxE (cs := p0) (rfl) hb1_ hw2_ ?_)
 obtain ⟨b3, hb3_⟩ : ∃ b_, b_ = w2.heap.size := ⟨_, rfl⟩
 obtain ⟨w4, hw4_⟩ : ∃ w_, w_ = w2.alloc (.cells (List.toArray [Value.slice none 0 0, Value.int .i64 0, Value.int .i64 0, Value.int .i64 0]) 31) := ⟨_, rfl⟩
 have h := h b3 w4 hb3_ hw4_
 refine RL.opS trivial rfl (OpW.allocE (b := b3) zero_31 hb3_ hw4_ ?_)
 refine RL.opS trivial rfl (OpW.assign (v := .int .i64 0) rfl ?_)
 refine RL.nil ?_
 refine CW.seq ?_
 refine CW.seq ?_
 refine CW.region ?_
 refine RL.opS trivial rfl (OpW.move (v := .int .i64 p1) rfl ?_)
 refine RL.opS trivial rfl (OpW.bin (k := .i64) (a := p1) (b := 0) (v := .bool (decide (p1 < 0))) rfl rfl rfl ?_)
 refine RL.nil ?_
 obtain ⟨ha, hc⟩ := h
 refine CW.cond (b := (decide (p1 < 0))) rfl (fun hb5 => ?_) (fun hb5 => ?_)
 ·have h := ha hb5; clear ha hc
  refine CW.seq ?_
  refine CW.region ?_
  obtain ⟨x6, h1, h2, h⟩ := h
  refine RL.opS trivial rfl (OpW.loadA agg_31 rfl h1 h2 ?_)
  obtain ⟨g_, o_, e_, cur_, ha_, h1, h2, h3, h4, h⟩ := h
  obtain ⟨w7, hw7_⟩ : ∃ w_, w_ = w4.setRow g_ (cur_.toList.take o_ ++ x6 ++ cur_.toList.drop (o_ + List.length x6)).toArray := ⟨_, rfl⟩
  have h := h w7 hw7_
  refine RL.opN trivial (OpW.storeAE (cs := x6) size_31 rfl rfl ha_ h1 h2 h3 h4 hw7_ ?_)
  refine RL.opS trivial rfl (OpW.assign (v := .int .i64 (-1)) rfl ?_)
  refine RL.nil ?_
  refine CW.ret ?_
  obtain ⟨x8, hc1, hc2, h⟩ := h
  exact ret_intro (res2c rfl agg_31 rfl hc1 hc2 rfl) ⟨(x8, (-1)), rfl, h⟩
 ·have h := hc hb5; clear ha hc
  refine CW.skip ?_
  refine CW.seq ?_
  refine CW.region ?_
  obtain ⟨x9, h1, h2, h⟩ := h
  refine RL.opS trivial rfl (OpW.loadA agg_31 rfl h1 h2 ?_)
  refine RL.opS trivial rfl (OpW.move (v := .int .i64 p1) rfl ?_)
  refine RL.opS trivial rfl (OpW.callR (al := [aggv x9, .int .i64 p1]) Try.func18 fb_18 fn_18 rfl h (fun x10 w11 h => ?_))
  refine RL.opS trivial rfl (OpW.assign (v := .int .i64 x10) rfl ?_)
  refine RL.opS trivial rfl (OpW.assign (v := .int .i64 (-1)) rfl ?_)
  refine RL.nil ?_
  refine jn_elim h ?_; clear h; intro k76 hk77 h
  refine CW.seqJ (A := Int) (fun s17 ρ => ρ 8 = .int .i64 s17 ∧ ρ 1 = .int .i64 p1 ∧ ρ 2 = str p2 ∧ ρ 3 = .pointer (some ⟨b1, 0, none⟩) ∧ ρ 6 = .pointer (some ⟨b3, 0, none⟩) ∧ ρ 9 = .int .i64 (-1)) k76 ?_ ?_
  ·rintro s17 ρ w18 ⟨e19, e20, e21, e22, e23, e24⟩ h
   subst hk77
   refine CW.seq ?_
   refine CW.block ?_
   obtain ⟨I74, mu75, hI, hs⟩ := h
   refine CW.loop (σ := Int × Int) (fun s25 ρ => ρ 8 = .int .i64 s25.1 ∧ ρ 9 = .int .i64 s25.2 ∧ ρ 1 = .int .i64 p1 ∧ ρ 2 = str p2 ∧ ρ 3 = .pointer (some ⟨b1, 0, none⟩) ∧ ρ 6 = .pointer (some ⟨b3, 0, none⟩)) I74 mu75 (s17, (-1)) ⟨e19, e24, e20, e21, e22, e23⟩ hI ?_
   rintro s25 ρ w26 ⟨e28, e29, e30, e31, e32, e33⟩ hI
   have h := hs s25 w26 hI
   clear hs hI
   refine CW.seq ?_
   refine CW.seq ?_
   refine CW.region ?_
   refine RL.opS trivial rfl (OpW.move (v := .int .i64 s25.1) e28 ?_)
   refine RL.opS trivial rfl (OpW.bin (k := .i64) (a := s25.1) (b := 0) (v := .bool (decide (s25.1 < 0))) rfl rfl rfl ?_)
   refine RL.nil ?_
   obtain ⟨ha, hc⟩ := h
   refine CW.cond (b := (decide (s25.1 < 0))) rfl (fun hb34 => ?_) (fun hb34 => ?_)
   ·have h := ha hb34; clear ha hc
    refine CW.skip ?_
    refine CW.block ?_
    refine CW.seq ?_
    refine CW.region ?_
    refine RL.opS trivial rfl (OpW.fieldAddr (off := 0) field_31_0 e32 ?_)
    obtain ⟨x35, h1, h⟩ := h
    refine RL.opS trivial rfl (OpW.load1 (v := Sl.v x35) one_29 rfl h1 ?_)
    refine RL.opS trivial rfl (OpW.fieldAddr field_31_1 e32 ?_)
    obtain ⟨x36, h1, h⟩ := h
    refine RL.opS trivial rfl (OpW.load1 (v := .int .i64 x36) one_3 rfl h1 ?_)
    obtain ⟨a37_, a37, h1, h2, h3, h4, h⟩ := h
    refine RL.opS trivial rfl (OpW.indexE (a' := a37) slice_29 rfl rfl h1 h2 h3 h4 ?_)
    obtain ⟨x39, h1, h2, h⟩ := h
    refine RL.opS trivial rfl (OpW.loadA agg_52 rfl h1 h2 ?_)
    obtain ⟨hl_b40, ho_b40, h⟩ := h
    obtain ⟨b40, hb40_⟩ : ∃ b_, b_ = w26.heap.size := ⟨_, rfl⟩
    obtain ⟨w41, hw41_⟩ : ∃ w_, w_ = w26.alloc (.cells (List.toArray x39) 52) := ⟨_, rfl⟩
    have h := h b40 w41 hb40_ hw41_
    refine RL.opS trivial rfl (OpW.allocZ (b := b40) zero_52 hb40_ ?_)
    refine RL.opN trivial (OpW.storeF (zs := [Value.int .i64 0, Value.bool false, str []]) (cs := x39) size_52 rfl rfl hl_b40 (by decide) ho_b40 hb40_ hw41_ ?_)
    refine RL.nil ?_
    refine jn_elim h ?_; clear h; intro k67 hk68 h
    refine CW.seqJ (A := Int × Int) (fun s56 ρ => ρ 8 = .int .i64 s56.1 ∧ ρ 9 = .int .i64 s56.2 ∧ ρ 1 = .int .i64 p1 ∧ ρ 2 = str p2 ∧ ρ 3 = .pointer (some ⟨b1, 0, none⟩) ∧ ρ 6 = .pointer (some ⟨b3, 0, none⟩)) k67 ?_ ?_
    ·rintro s56 ρ w57 ⟨e58, e59, e60, e61, e62, e63⟩ h
     subst hk68
     refine CW.region ?_
     refine RL.opS trivial rfl (OpW.fieldAddr field_31_1 e62 ?_)
     obtain ⟨x64, h1, h⟩ := h
     refine RL.opS trivial rfl (OpW.load1 (v := .int .i64 x64) one_3 rfl h1 ?_)
     refine RL.opS trivial rfl (OpW.bin (k := .i64) (a := x64) (b := 1) (v := .int .i64 (IntKind.i64.wrap (x64 + 1))) rfl rfl rfl ?_)
     refine RL.opS trivial rfl (OpW.fieldAddr (off := 0) field_31_0 e62 ?_)
     obtain ⟨x65, h1, h⟩ := h
     refine RL.opS trivial rfl (OpW.load1 (v := Sl.v x65) one_29 rfl h1 ?_)
     refine RL.opS trivial rfl (OpW.len (s := x65) slice_29 rfl ?_)
     obtain ⟨hq_, h⟩ := h
     refine RL.opS trivial rfl (OpW.quo (a := (IntKind.i64.wrap (x64 + 1))) (b := (x65.len : Int)) (v := .int .i64 (Int.tmod (IntKind.i64.wrap (x64 + 1)) (x65.len : Int))) rfl rfl hq_ rfl ?_)
     refine RL.opS trivial rfl (OpW.fieldAddr field_31_1 e62 ?_)
     obtain ⟨u_, h1, h2, h⟩ := h
     obtain ⟨w66, hw66_⟩ : ∃ w_, w_ = w57.setCell (Addr.add ⟨b1, 0, none⟩ 1) (.int .i64 (Int.tmod (IntKind.i64.wrap (x64 + 1)) (x65.len : Int))) := ⟨_, rfl⟩
     have h := h w66 hw66_
     refine RL.opN trivial (OpW.store1E (v := .int .i64 (Int.tmod (IntKind.i64.wrap (x64 + 1)) (x65.len : Int))) size_3 rfl rfl rfl h1 h2 hw66_ ?_)
     refine RL.nil ?_
     exact ⟨(s56.1, s56.2), ⟨e58, e59, e60, e61, e62, e63⟩, h⟩
    ·clear hk68
     refine CW.seq ?_
     refine CW.region ?_
     refine RL.opS trivial rfl (OpW.fieldAddr field_52_1 rfl ?_)
     obtain ⟨x43, h1, h⟩ := h
     refine RL.opS trivial rfl (OpW.load1 (v := .bool x43) one_4 rfl h1 ?_)
     refine RL.nil ?_
     obtain ⟨ha, hc⟩ := h
     refine CW.cond (b := x43) rfl (fun hb44 => ?_) (fun hb44 => ?_)
     ·have h := ha hb44; clear ha hc
      refine CW.seq ?_
      refine CW.region ?_
      refine RL.opS trivial rfl (OpW.fieldAddr field_52_1 rfl ?_)
      obtain ⟨u_, h1, h2, h⟩ := h
      obtain ⟨w45, hw45_⟩ : ∃ w_, w_ = w41.setCell (Addr.add ⟨b40, 0, none⟩ 1) (.bool false) := ⟨_, rfl⟩
      have h := h w45 hw45_
      refine RL.opN trivial (OpW.store1E (v := .bool false) size_4 rfl rfl rfl h1 h2 hw45_ ?_)
      refine RL.nil ?_
      refine CW.region ?_
      obtain ⟨x46, h1, h2, h⟩ := h
      refine RL.opS trivial rfl (OpW.loadA agg_31 e32 h1 h2 ?_)
      refine RL.opS trivial rfl (OpW.fieldAddr field_31_1 e32 ?_)
      obtain ⟨x47, h1, h⟩ := h
      refine RL.opS trivial rfl (OpW.load1 (v := .int .i64 x47) one_3 rfl h1 ?_)
      obtain ⟨x48, h1, h2, h⟩ := h
      refine RL.opS trivial rfl (OpW.loadA agg_52 rfl h1 h2 ?_)
      refine RL.opS trivial rfl (OpW.callR (al := [aggv x46, .int .i64 x47, aggv x48]) Try.func19 fb_19 fn_19 rfl h (fun x49 w50 h => ?_))
      obtain ⟨g_, o_, e_, cur_, ha_, h1, h2, h3, h4, h⟩ := h
      obtain ⟨w51, hw51_⟩ : ∃ w_, w_ = w50.setRow g_ (cur_.toList.take o_ ++ x49 ++ cur_.toList.drop (o_ + List.length x49)).toArray := ⟨_, rfl⟩
      have h := h w51 hw51_
      refine RL.opN trivial (OpW.storeAE (cs := x49) size_31 e32 rfl ha_ h1 h2 h3 h4 hw51_ ?_)
      refine RL.nil ?_
      exact ⟨(s25.1, s25.2), ⟨e28, e29, e30, e31, e32, e33⟩, h⟩
     ·have h := hc hb44; clear ha hc
      obtain ⟨w52, hw52_⟩ : ∃ w_, w_ = w41.drew := ⟨_, rfl⟩
      have h := h w52 hw52_
      have hx53 : Ext w41 w52 := by rw [hw52_]; exact Ext.drew _
      refine CW.draws (m := 6) (listed := #[F,F,F,F,F,F]) mixed [0, 1, 2, 3, 4, 5] (Ext w41) rfl rfl ?_
      rw [← hw52_]
      refine DL.takeP (listed' := #[T,F,F,F,F,F]) (v := .pointer (some (Addr.add ⟨b1, 0, none⟩ 1))) 0 rfl rfl (by kernel_rfl) rfl trivial rfl (fun w_ K_ h_ => OpW.fieldAddr field_31_1 e32 h_) ?_
      obtain ⟨x54, h1, h⟩ := h
      refine DL.takeK (listed' := #[T,T,F,F,F,F]) (v := .int .i64 x54) 1 rfl rfl (by kernel_rfl) (by kernel_rfl) rfl trivial rfl hx53 (fun w_ hS_ K_ h_ => OpW.load1 (v := .int .i64 x54) one_3 rfl (hS_.cell h1) h_) ?_
      refine DL.takeP (listed' := #[T,T,T,F,F,F]) (v := .pointer (some (Addr.add ⟨b40, 0, none⟩ 0))) 2 rfl rfl (by kernel_rfl) rfl trivial rfl (fun w_ K_ h_ => OpW.fieldAddr (off := 0) field_52_0 rfl h_) ?_
      obtain ⟨x55, h1, h⟩ := h
      refine DL.takeK (listed' := #[T,T,T,T,F,F]) (v := .int .i64 x55) 3 rfl rfl (by kernel_rfl) (by kernel_rfl) rfl trivial rfl hx53 (fun w_ hS_ K_ h_ => OpW.load1 (v := .int .i64 x55) one_3 rfl (hS_.cell h1) h_) ?_
      refine DL.takeP (listed' := #[T,T,T,T,T,F]) (v := .int .i64 x54) 4 rfl rfl (by kernel_rfl) rfl trivial rfl (fun w_ K_ h_ => OpW.assign (v := .int .i64 x54) rfl h_) ?_
      refine DL.takeP (listed' := #[T,T,T,T,T,T]) (v := .int .i64 x55) 5 rfl rfl (by kernel_rfl) rfl trivial rfl (fun w_ K_ h_ => OpW.assign (v := .int .i64 x55) rfl h_) ?_
      refine DL.done (by kernel_rfl) ?_
      exact ⟨(x54, x55), ⟨rfl, rfl, e30, e31, e32, e33⟩, h⟩
   ·have h := hc hb34; clear ha hc
    refine CW.exit ?_
    refine CW.seq ?_
    refine CW.region ?_
    obtain ⟨x69, h1, h2, h⟩ := h
    refine RL.opS trivial rfl (OpW.loadA agg_31 e32 h1 h2 ?_)
    refine RL.opS trivial rfl (OpW.move (v := .int .i64 s25.1) e28 ?_)
    refine RL.opS trivial rfl (OpW.move (v := .int .i64 p1) e30 ?_)
    refine RL.opS trivial rfl (OpW.move (v := str p2) e31 ?_)
    refine RL.opS trivial rfl (OpW.buildL (vs := [(0, .int .i64 p1), (1, .bool true), (2, str p2)]) (cs := [.int .i64 p1, .bool true, str p2]) (by rfl) (fun _ => by kernel_rfl) ?_)
    refine RL.opS trivial rfl (OpW.callR (al := [aggv x69, .int .i64 s25.1, aggv [.int .i64 p1, .bool true, str p2]]) Try.func19 fb_19 fn_19 rfl h (fun x70 w71 h => ?_))
    refine RL.opS trivial rfl (OpW.move (v := .int .i64 s25.2) e29 ?_)
    obtain ⟨g_, o_, e_, cur_, ha_, h1, h2, h3, h4, h⟩ := h
    obtain ⟨w72, hw72_⟩ : ∃ w_, w_ = w71.setRow g_ (cur_.toList.take o_ ++ x70 ++ cur_.toList.drop (o_ + List.length x70)).toArray := ⟨_, rfl⟩
    have h := h w72 hw72_
    refine RL.opN trivial (OpW.storeAE (cs := x70) size_31 e33 rfl ha_ h1 h2 h3 h4 hw72_ ?_)
    refine RL.opS trivial rfl (OpW.assign (v := .int .i64 s25.2) rfl ?_)
    refine RL.nil ?_
    refine CW.ret ?_
    obtain ⟨x73, hc1, hc2, h⟩ := h
    exact ret_intro (res2c rfl agg_31 e33 hc1 hc2 rfl) ⟨(x73, s25.2), rfl, h⟩
  ·clear hk77
   refine CW.seq ?_
   refine CW.region ?_
   refine RL.opS trivial rfl (OpW.move (v := .int .i64 x10) rfl ?_)
   refine RL.opS trivial rfl (OpW.bin (k := .i64) (a := x10) (b := 0) (v := .bool (decide (x10 < 0))) rfl rfl rfl ?_)
   refine RL.nil ?_
   obtain ⟨ha, hc⟩ := h
   refine CW.cond (b := (decide (x10 < 0))) rfl (fun hb13 => ?_) (fun hb13 => ?_)
   ·have h := ha hb13; clear ha hc
    refine CW.region ?_
    obtain ⟨x14, h1, h2, h⟩ := h
    refine RL.opS trivial rfl (OpW.loadA agg_31 rfl h1 h2 ?_)
    refine RL.opS trivial rfl (OpW.callR (al := [aggv x14, .int .i64 (-1)]) Try.func18 fb_18 fn_18 rfl h (fun x15 w16 h => ?_))
    refine RL.opS trivial rfl (OpW.assign (v := .int .i64 x15) rfl ?_)
    refine RL.nil ?_
    exact ⟨x15, ⟨rfl, rfl, rfl, rfl, rfl, rfl⟩, h⟩
   ·have h := hc hb13; clear ha hc
    refine CW.skip ?_
    exact ⟨x10, ⟨rfl, rfl, rfl, rfl, rfl, rfl⟩, h⟩
end Go.Proofs.Ytijopkmclcbehaa
end
section
/- The typed readings of the functions, and that the program meets each: written by gen.py (a program of this session). -/
namespace Go.Proofs.Ytijopkmclcbehaa
open Go.Lift
set_option maxRecDepth 100000 in
set_option maxHeartbeats 4000000 in
theorem s12_calls (K : List Value × Bool → World → Prop) (p0 : List Value) (p1 : Int) (w : World) (h : s12 K p0 p1 w) :
  Calls Try.prog 12 #[aggv p0, .int .i64 p1] w (Ret r12 K) := by
 unfold s12 at h
 refine calls_of_CW (n := 21) Try.func12 rfl rfl rfl ?_
 refine CW.seq ?_
 refine CW.region ?_
 obtain ⟨b1, hb1_⟩ : ∃ b_, b_ = w.heap.size := ⟨_, rfl⟩
 obtain ⟨w2, hw2_⟩ : ∃ w_, w_ = w.alloc (.cells (List.toArray p0) 31) := ⟨_, rfl⟩
 have h := h b1 w2 hb1_ hw2_
 refine RL.opS trivial rfl (OpW.boxE (cs := p0) (rfl) hb1_ hw2_ ?_)
 obtain ⟨b3, hb3_⟩ : ∃ b_, b_ = w2.heap.size := ⟨_, rfl⟩
 obtain ⟨w4, hw4_⟩ : ∃ w_, w_ = w2.alloc (.cells (List.toArray [Value.slice none 0 0, Value.int .i64 0, Value.int .i64 0, Value.int .i64 0]) 31) := ⟨_, rfl⟩
 have h := h b3 w4 hb3_ hw4_
 refine RL.opS trivial rfl (OpW.allocE (b := b3) zero_31 hb3_ hw4_ ?_)
 refine RL.opS trivial rfl (OpW.assign (v := .bool false) rfl ?_)
 refine RL.nil ?_
 refine CW.seq ?_
 refine CW.seq ?_
 refine CW.region ?_
 refine RL.opS trivial rfl (OpW.move (v := .int .i64 p1) rfl ?_)
 refine RL.opS trivial rfl (OpW.bin (k := .i64) (a := p1) (b := 0) (v := .bool (decide (p1 < 0))) rfl rfl rfl ?_)
 refine RL.opS trivial rfl (OpW.move (v := .bool (decide (p1 < 0))) rfl ?_)
 refine jn_elim h ?_; clear h; intro k31 hk32 h
 refine RL.joinAt (A := Bool) 5 (fun s10 ρ => ρ 13 = .bool s10 ∧ ρ 1 = .int .i64 p1 ∧ ρ 2 = .pointer (some ⟨b1, 0, none⟩) ∧ ρ 4 = .pointer (some ⟨b3, 0, none⟩)) k31 ?_ ?_
 ·rintro s10 ρ w11 ⟨e12, e13, e14, e15⟩ h
  subst hk32
  dsimp only [List.drop]
  refine RL.nil ?_
  obtain ⟨ha, hc⟩ := h
  refine CW.cond (b := s10) e12 (fun hb16 => ?_) (fun hb16 => ?_)
  ·have h := ha hb16; clear ha hc
   refine CW.seq ?_
   refine CW.region ?_
   obtain ⟨x17, h1, h2, h⟩ := h
   refine RL.opS trivial rfl (OpW.loadA agg_31 e14 h1 h2 ?_)
   obtain ⟨g_, o_, e_, cur_, ha_, h1, h2, h3, h4, h⟩ := h
   obtain ⟨w18, hw18_⟩ : ∃ w_, w_ = w11.setRow g_ (cur_.toList.take o_ ++ x17 ++ cur_.toList.drop (o_ + List.length x17)).toArray := ⟨_, rfl⟩
   have h := h w18 hw18_
   refine RL.opN trivial (OpW.storeAE (cs := x17) size_31 e15 rfl ha_ h1 h2 h3 h4 hw18_ ?_)
   refine RL.opS trivial rfl (OpW.assign (v := .bool false) rfl ?_)
   refine RL.nil ?_
   refine CW.ret ?_
   obtain ⟨x19, hc1, hc2, h⟩ := h
   exact ret_intro (res2c rfl agg_31 e15 hc1 hc2 rfl) ⟨(x19, false), rfl, h⟩
  ·have h := hc hb16; clear ha hc
   refine CW.skip ?_
   refine CW.seq ?_
   obtain ⟨w20, hw20_⟩ : ∃ w_, w_ = w11.drew := ⟨_, rfl⟩
   have h := h w20 hw20_
   have hx21 : Ext w11 w20 := by rw [hw20_]; exact Ext.drew _
   refine CW.draws (m := 8) (listed := #[F,F,F,F,F,F,F,F]) mixed [0, 1, 2, 3, 4, 7] (Ext w11) rfl rfl ?_
   rw [← hw20_]
   obtain ⟨x22, h1, h2, h⟩ := h
   refine DL.takeK (listed' := #[T,F,F,F,F,F,F,F]) (v := aggv x22) 0 rfl rfl (by kernel_rfl) (by kernel_rfl) rfl trivial rfl hx21 (fun w_ hS_ K_ h_ => OpW.loadA agg_31 e14 h1 (hS_.at h2) h_) ?_
   obtain ⟨x23, h1, h2, h⟩ := h
   refine DL.takeK (listed' := #[T,T,F,F,F,F,F,F]) (v := aggv x23) 1 rfl rfl (by kernel_rfl) (by kernel_rfl) rfl trivial rfl hx21 (fun w_ hS_ K_ h_ => OpW.loadA agg_31 e14 h1 (hS_.at h2) h_) ?_
   refine DL.takeP (listed' := #[T,T,T,F,F,F,F,F]) (v := .int .i64 p1) 2 rfl rfl (by kernel_rfl) rfl trivial rfl (fun w_ K_ h_ => OpW.move (v := .int .i64 p1) e13 h_) ?_
   refine DL.takeP (listed' := #[T,T,T,F,T,F,F,F]) (v := aggv [.int .i64 (-1), Value.bool false, str []]) 4 rfl rfl (by kernel_rfl) rfl trivial rfl (fun w_ K_ h_ => OpW.buildL (vs := [(0, .int .i64 (-1))]) (cs := [.int .i64 (-1), Value.bool false, str []]) (by rfl) (fun _ => by kernel_rfl) h_) ?_
   refine DL.execS (listed' := #[T,T,T,T,T,F,F,F]) 3 rfl (by kernel_rfl) rfl trivial rfl (OpW.callR (al := [aggv x23, .int .i64 p1]) Try.func18 fb_18 fn_18 rfl h (fun x24 w25 h => ?_))
   obtain ⟨hx26, h⟩ := h
   refine ⟨(fun _ _ => hx26), ?_⟩
   refine DL.execS (listed' := #[T,T,T,T,T,T,F,F]) 5 rfl (by kernel_rfl) rfl trivial rfl (OpW.callR (al := [aggv x22, .int .i64 x24, aggv [.int .i64 (-1), Value.bool false, str []]]) Try.func19 fb_19 fn_19 rfl h (fun x27 w28 h => ?_))
   refine ⟨(fun h_ => absurd h_ (by decide)), ?_⟩
   obtain ⟨g_, o_, e_, cur_, ha_, h1, h2, h3, h4, h⟩ := h
   obtain ⟨w29, hw29_⟩ : ∃ w_, w_ = w28.setRow g_ (cur_.toList.take o_ ++ x27 ++ cur_.toList.drop (o_ + List.length x27)).toArray := ⟨_, rfl⟩
   have h := h w29 hw29_
   refine DL.execN (listed' := #[T,T,T,T,T,T,T,F]) 6 rfl (by kernel_rfl) rfl trivial (OpW.storeAE (cs := x27) size_31 e15 rfl ha_ h1 h2 h3 h4 hw29_ ?_)
   refine ⟨(fun h_ => absurd h_ (by decide)), ?_⟩
   refine DL.takeP (listed' := #[T,T,T,T,T,T,T,T]) (v := .bool true) 7 rfl rfl (by kernel_rfl) rfl trivial rfl (fun w_ K_ h_ => OpW.assign (v := .bool true) rfl h_) ?_
   refine DL.done (by kernel_rfl) ?_
   refine CW.ret ?_
   obtain ⟨x30, hc1, hc2, h⟩ := h
   exact ret_intro (res2c rfl agg_31 e15 hc1 hc2 rfl) ⟨(x30, true), rfl, h⟩
 ·clear hk32
  dsimp only [List.take]
  obtain ⟨ha, hc⟩ := h
  rcases Bool.eq_false_or_eq_true (decide (p1 < 0)) with hb5 | hb5
  ·have h := ha hb5; clear ha hc
   refine RL.skipS (notWanted_of rfl rfl hb5) rfl ?_
   refine RL.skipS (notWanted_of rfl rfl hb5) rfl ?_
   refine RL.skipS (notWanted_of rfl rfl hb5) rfl ?_
   refine RL.skipS (notWanted_of rfl rfl hb5) rfl ?_
   refine RL.opS trivial rfl (OpW.pick (b := true) (v := .bool true) (congrArg Value.bool hb5) rfl ?_)
   refine RL.nil ?_
   exact ⟨true, ⟨rfl, rfl, rfl, rfl⟩, h⟩
  ·have h := hc hb5; clear ha hc
   obtain ⟨x7, h1, h2, h⟩ := h
   refine RL.opS (wanted_of rfl rfl hb5) rfl (OpW.loadA agg_31 rfl h1 h2 ?_)
   refine RL.opS (wanted_of rfl rfl hb5) rfl (OpW.move (v := .int .i64 p1) rfl ?_)
   refine RL.opS (wanted_of rfl rfl hb5) rfl (OpW.callR (al := [aggv x7, .int .i64 p1]) Try.func18 fb_18 fn_18 rfl h (fun x8 w9 h => ?_))
   refine RL.opS (wanted_of rfl rfl hb5) rfl (OpW.bin (k := .i64) (a := x8) (b := 0) (v := .bool (decide (x8 < 0))) rfl rfl rfl ?_)
   refine RL.opS trivial rfl (OpW.pick (b := false) (v := .bool (decide (x8 < 0))) (congrArg Value.bool hb5) rfl ?_)
   refine RL.nil ?_
   exact ⟨(decide (x8 < 0)), ⟨rfl, rfl, rfl, rfl⟩, h⟩
end Go.Proofs.Ytijopkmclcbehaa
end
section
/- The typed readings of the functions, and that the program meets each: written by gen.py (a program of this session). -/
namespace Go.Proofs.Ytijopkmclcbehaa
open Go.Lift
set_option maxRecDepth 100000 in
set_option maxHeartbeats 4000000 in
theorem s18_calls (K : Int → World → Prop) (p0 : List Value) (p1 : Int) (w : World) (h : s18 K p0 p1 w) :
  Calls Try.prog 18 #[aggv p0, .int .i64 p1] w (Ret r18 K) := by
 unfold s18 at h
 refine calls_of_CW (n := 22) Try.func18 rfl rfl rfl ?_
 refine CW.seq ?_
 refine CW.region ?_
 obtain ⟨b1, hb1_⟩ : ∃ b_, b_ = w.heap.size := ⟨_, rfl⟩
 obtain ⟨w2, hw2_⟩ : ∃ w_, w_ = w.alloc (.cells (List.toArray p0) 31) := ⟨_, rfl⟩
 have h := h b1 w2 hb1_ hw2_
 refine RL.opS trivial rfl (OpW.boxE (cs := p0) (rfl) hb1_ hw2_ ?_)
 refine RL.opS trivial rfl (OpW.assign (v := .int .i64 0) rfl ?_)
 refine RL.nil ?_
 refine CW.seq ?_
 refine CW.seq ?_
 refine CW.region ?_
 refine RL.opS trivial rfl (OpW.assign (v := .int .i64 0) rfl ?_)
 refine RL.nil ?_
 refine CW.block ?_
 obtain ⟨I16, mu17, hI, hs⟩ := h
 refine CW.loop (σ := Int) (fun s3 ρ => ρ 5 = .int .i64 s3 ∧ ρ 1 = .int .i64 p1 ∧ ρ 2 = .pointer (some ⟨b1, 0, none⟩)) I16 mu17 0 ⟨rfl, rfl, rfl⟩ hI ?_
 rintro s3 ρ w4 ⟨e6, e7, e8⟩ hI
 have h := hs s3 w4 hI
 clear hs hI
 refine CW.seq ?_
 refine CW.seq ?_
 refine CW.region ?_
 refine RL.opS trivial rfl (OpW.move (v := .int .i64 s3) e6 ?_)
 refine RL.opS trivial rfl (OpW.fieldAddr (off := 0) field_31_0 e8 ?_)
 obtain ⟨x9, h1, h⟩ := h
 refine RL.opS trivial rfl (OpW.load1 (v := Sl.v x9) one_29 rfl h1 ?_)
 refine RL.opS trivial rfl (OpW.len (s := x9) slice_29 rfl ?_)
 refine RL.opS trivial rfl (OpW.bin (k := .i64) (a := s3) (b := (x9.len : Int)) (v := .bool (decide (s3 < (x9.len : Int)))) rfl rfl rfl ?_)
 refine RL.nil ?_
 obtain ⟨ha, hc⟩ := h
 refine CW.cond (b := (decide (s3 < (x9.len : Int)))) rfl (fun hb10 => ?_) (fun hb10 => ?_)
 ·have h := ha hb10; clear ha hc
  refine CW.skip ?_
  refine CW.seq ?_
  refine CW.block ?_
  refine CW.seq ?_
  refine CW.region ?_
  refine RL.opS trivial rfl (OpW.fieldAddr (off := 0) field_31_0 e8 ?_)
  obtain ⟨x11, h1, h⟩ := h
  refine RL.opS trivial rfl (OpW.load1 (v := Sl.v x11) one_29 rfl h1 ?_)
  refine RL.opS trivial rfl (OpW.move (v := .int .i64 s3) e6 ?_)
  obtain ⟨a12_, a12, h1, h2, h3, h4, h⟩ := h
  refine RL.opS trivial rfl (OpW.indexE (a' := a12) slice_29 rfl rfl h1 h2 h3 h4 ?_)
  refine RL.opS trivial rfl (OpW.fieldAddr (off := 0) field_52_0 rfl ?_)
  obtain ⟨x14, h1, h⟩ := h
  refine RL.opS trivial rfl (OpW.load1 (v := .int .i64 x14) one_3 rfl h1 ?_)
  refine RL.opS trivial rfl (OpW.move (v := .int .i64 p1) e7 ?_)
  refine RL.opS trivial rfl (OpW.bin (k := .i64) (a := x14) (b := p1) (v := .bool (decide (x14 = p1))) rfl rfl rfl ?_)
  refine RL.nil ?_
  obtain ⟨ha, hc⟩ := h
  refine CW.cond (b := (decide (x14 = p1))) rfl (fun hb15 => ?_) (fun hb15 => ?_)
  ·have h := ha hb15; clear ha hc
   refine CW.seq ?_
   refine CW.region ?_
   refine RL.opS trivial rfl (OpW.move (v := .int .i64 s3) e6 ?_)
   refine RL.opS trivial rfl (OpW.assign (v := .int .i64 s3) rfl ?_)
   refine RL.nil ?_
   refine CW.ret ?_
   exact ret_intro (res1 rfl rfl) ⟨s3, rfl, h⟩
  ·have h := hc hb15; clear ha hc
   refine CW.skip ?_
   refine CW.region ?_
   refine RL.opS trivial rfl (OpW.move (v := .int .i64 s3) e6 ?_)
   refine RL.opS trivial rfl (OpW.bin (k := .i64) (a := s3) (b := 1) (v := .int .i64 (IntKind.i64.wrap (s3 + 1))) rfl rfl rfl ?_)
   refine RL.opS trivial rfl (OpW.assign (v := .int .i64 (IntKind.i64.wrap (s3 + 1))) rfl ?_)
   refine RL.nil ?_
   exact ⟨(IntKind.i64.wrap (s3 + 1)), ⟨rfl, e7, e8⟩, h⟩
 ·have h := hc hb10; clear ha hc
  refine CW.exit ?_
  refine CW.seq ?_
  refine CW.region ?_
  refine RL.opS trivial rfl (OpW.assign (v := .int .i64 (-1)) rfl ?_)
  refine RL.nil ?_
  refine CW.ret ?_
  exact ret_intro (res1 rfl rfl) ⟨(-1), rfl, h⟩
end Go.Proofs.Ytijopkmclcbehaa
end
section
/- The typed readings of the functions, and that the program meets each: written by gen.py (a program of this session). -/
namespace Go.Proofs.Ytijopkmclcbehaa
open Go.Lift
set_option maxRecDepth 100000 in
set_option maxHeartbeats 4000000 in
theorem s19_calls (K : List Value → World → Prop) (p0 : List Value) (p1 : Int) (p2 : List Value) (w : World) (h : s19 K p0 p1 p2 w) :
  Calls Try.prog 19 #[aggv p0, .int .i64 p1, aggv p2] w (Ret r19 K) := by
 unfold s19 at h
 refine calls_of_CW (n := 19) Try.func19 rfl rfl rfl ?_
 refine CW.seq ?_
 refine CW.region ?_
 obtain ⟨b1, hb1_⟩ : ∃ b_, b_ = w.heap.size := ⟨_, rfl⟩
 obtain ⟨w2, hw2_⟩ : ∃ w_, w_ = w.alloc (.cells (List.toArray p0) 31) := ⟨_, rfl⟩
 have h := h b1 w2 hb1_ hw2_
 refine RL.opS trivial rfl (OpW.boxE (cs := p0) (rfl) hb1_ hw2_ ?_)
 obtain ⟨b3, hb3_⟩ : ∃ b_, b_ = w2.heap.size := ⟨_, rfl⟩
 obtain ⟨w4, hw4_⟩ : ∃ w_, w_ = w2.alloc (.cells (List.toArray p2) 52) := ⟨_, rfl⟩
 have h := h b3 w4 hb3_ hw4_
 refine RL.opS trivial rfl (OpW.boxE (cs := p2) (rfl) hb3_ hw4_ ?_)
 obtain ⟨b5, hb5_⟩ : ∃ b_, b_ = w4.heap.size := ⟨_, rfl⟩
 obtain ⟨w6, hw6_⟩ : ∃ w_, w_ = w4.alloc (.cells (List.toArray [Value.slice none 0 0, Value.int .i64 0, Value.int .i64 0, Value.int .i64 0]) 31) := ⟨_, rfl⟩
 have h := h b5 w6 hb5_ hw6_
 refine RL.opS trivial rfl (OpW.allocE (b := b5) zero_31 hb5_ hw6_ ?_)
 refine RL.nil ?_
 refine CW.seq ?_
 refine CW.region ?_
 obtain ⟨b7, hb7_⟩ : ∃ b_, b_ = w6.heap.size := ⟨_, rfl⟩
 obtain ⟨w8, hw8_⟩ : ∃ w_, w_ = w6.alloc (.cells (List.toArray []) 52) := ⟨_, rfl⟩
 have h := h b7 w8 hb7_ hw8_
 refine RL.opS trivial rfl (OpW.buildSliceE (vs := []) (cs := []) (by rfl) (by kernel_rfl) hb7_ hw8_ ?_)
 refine RL.opS trivial rfl (OpW.fieldAddr (off := 0) field_31_0 rfl ?_)
 obtain ⟨x9, h1, h⟩ := h
 refine RL.opS trivial rfl (OpW.load1 (v := Sl.v x9) one_29 rfl h1 ?_)
 obtain ⟨x10, w11, hr_, h⟩ := h
 refine RL.opS trivial rfl (OpW.appendL (v := Sl.v x10) rfl hr_ ?_)
 refine RL.opS trivial rfl (OpW.assign (v := Sl.v x10) rfl ?_)
 refine RL.nil ?_
 refine CW.seq ?_
 refine CW.region ?_
 refine RL.opS trivial rfl (OpW.move (v := Sl.v x10) rfl ?_)
 refine RL.opS trivial rfl (OpW.move (v := .int .i64 p1) rfl ?_)
 obtain ⟨x12, h1, h2, h⟩ := h
 refine RL.opS trivial rfl (OpW.loadA agg_52 rfl h1 h2 ?_)
 obtain ⟨a13_, a13, h1, h2, h3, h4, h⟩ := h
 refine RL.opS trivial rfl (OpW.indexE (a' := a13) slice_29 rfl rfl h1 h2 h3 h4 ?_)
 obtain ⟨g_, o_, e_, cur_, ha_, h1, h2, h3, h4, h⟩ := h
 obtain ⟨w15, hw15_⟩ : ∃ w_, w_ = w11.setRow g_ (cur_.toList.take o_ ++ x12 ++ cur_.toList.drop (o_ + List.length x12)).toArray := ⟨_, rfl⟩
 have h := h w15 hw15_
 refine RL.opN trivial (OpW.storeAE (cs := x12) size_52 rfl rfl ha_ h1 h2 h3 h4 hw15_ ?_)
 refine RL.nil ?_
 refine CW.seq ?_
 refine CW.region ?_
 refine RL.opS trivial rfl (OpW.move (v := Sl.v x10) rfl ?_)
 refine RL.opS trivial rfl (OpW.fieldAddr (off := 0) field_31_0 rfl ?_)
 obtain ⟨u_, h1, h2, h⟩ := h
 obtain ⟨w16, hw16_⟩ : ∃ w_, w_ = w15.setCell (Addr.add ⟨b1, 0, none⟩ 0) (Sl.v x10) := ⟨_, rfl⟩
 have h := h w16 hw16_
 refine RL.opN trivial (OpW.store1E (v := Sl.v x10) size_29 rfl rfl rfl h1 h2 hw16_ ?_)
 refine RL.nil ?_
 refine CW.seq ?_
 refine CW.region ?_
 obtain ⟨x17, h1, h2, h⟩ := h
 refine RL.opS trivial rfl (OpW.loadA agg_31 rfl h1 h2 ?_)
 obtain ⟨g_, o_, e_, cur_, ha_, h1, h2, h3, h4, h⟩ := h
 obtain ⟨w18, hw18_⟩ : ∃ w_, w_ = w16.setRow g_ (cur_.toList.take o_ ++ x17 ++ cur_.toList.drop (o_ + List.length x17)).toArray := ⟨_, rfl⟩
 have h := h w18 hw18_
 refine RL.opN trivial (OpW.storeAE (cs := x17) size_31 rfl rfl ha_ h1 h2 h3 h4 hw18_ ?_)
 refine RL.nil ?_
 refine CW.ret ?_
 obtain ⟨x19, hc1, hc2, h⟩ := h
 exact ret_intro (res1c rfl agg_31 rfl hc1 hc2) ⟨x19, rfl, h⟩
end Go.Proofs.Ytijopkmclcbehaa
end
section
/- The document's pool: what its functions answer, over the same plain pool. -/
namespace Go.Proofs.Ytijopkmclcbehaa
open Go.Lift Go.Lift.Pool Go.RowKit
theorem exists_least (p : Nat → Prop) : ∀ k, p k → ∃ k, p k ∧ ∀ j, p j → k ≤ j := by
 intro k
 induction k using Nat.strongRecOn with
 | ind k ih =>
  intro hk
  by_cases h : ∃ j, j < k ∧ p j
  ·obtain ⟨j, hj, hp⟩ := h
   exact ih j hj hp
  ·refine ⟨k, hk, fun j hj => ?_⟩
   rcases Nat.lt_or_ge j k with h1 | h1
   ·exact absurd ⟨j, h1, hj⟩ h
   ·exact h1
/-- A loop by a measure that need not be read off the state. -/
theorem loopJ {σ : Type} {step : (σ → World → Prop) → σ → World → Prop} {s0 : σ} {w : World} (J : Nat → σ → World → Prop) (k0 : Nat) (h0 : J k0 s0 w)
  (hstep : ∀ (next : σ → World → Prop) (k : Nat) (s : σ) (w : World), J k s w → (∀ k' s' w', k' < k → J k' s' w' → next s' w') → step next s w) : LoopS step s0 w := by
 classical
 have hl : ∀ s w, (∃ k, J k s w) → ∃ k, J k s w ∧ ∀ j, J j s w → k ≤ j := fun s w ⟨k, hk⟩ => exists_least (fun k => J k s w) k hk
 refine ⟨fun s w => ∃ k, J k s w, fun s w => if h : ∃ k, J k s w then Classical.choose (hl s w h) else 0, ⟨k0, h0⟩, ?_⟩
 intro s w hI
 refine hstep _ (Classical.choose (hl s w hI)) s w (Classical.choose_spec (hl s w hI)).1 ?_
 intro k' s' w' hk hJ
 have hI' : ∃ k, J k s' w' := ⟨k', hJ⟩
 refine ⟨hI', ?_⟩
 simp only [dif_pos hI', dif_pos hI]
 exact Nat.lt_of_le_of_lt ((Classical.choose_spec (hl s' w' hI')).2 k' hJ) hk
theorem mkz_29' : mkCells Try.prog 29 = some (52, 3, 32, [Value.int .i64 0, Value.bool false, str []]) := by kernel_rfl
def rfC (f : Fm) : List Value := [.int .i64 f.page, .bool f.mark, str f.bs]
theorem rfC_len (f : Fm) : (rfC f).length = 3 := rfl
theorem rfC_one (f : Fm) : ∀ v ∈ rfC f, v.oneCell' = true := by
 intro v hv
 simp only [rfC, List.mem_cons, List.not_mem_nil, or_false] at hv
 rcases hv with rfl | rfl | rfl <;> rfl
theorem rfs_one (l : List Fm) : ∀ v ∈ l.flatMap rfC, v.oneCell' = true := by
 intro v hv
 obtain ⟨f, _, hf⟩ := List.mem_flatMap.1 hv
 exact rfC_one f v hf
abbrev rc (s : Sl) (P : Pl) : List Value := [s.v, .int .i64 (P.hand : Int), .int .i64 (P.hits : Int), .int .i64 (P.misses : Int)]
theorem rc_one (s : Sl) (P : Pl) : ∀ v ∈ rc s P, v.oneCell' = true := by
 intro v hv
 simp only [rc, List.mem_cons, List.not_mem_nil, or_false] at hv
 rcases hv with rfl | rfl | rfl | rfl <;> rfl
structure RX (w : World) (B : Nat → Prop) (s : Sl) (l : List Fm) : Prop where
 len : s.len = l.length
 cells : AtO w s.a (l.flatMap rfC)
 far : ∀ a, s.a = some a → B a.block ∧ a.block < w.heap.size
def RAt (w : World) (B : Nat → Prop) (cs : List Value) (P : Pl) : Prop := ∃ s, cs = rc s P ∧ RX w B s P.fr
section
variable {w w' : World} {B B' : Nat → Prop} {s : Sl} {l : List Fm} {cs : List Value} {P : Pl}
theorem RX.fr {X : Nat → Prop} (h : RX w B s l) (hf : Fr X w w') (hX : ∀ k, B k → ¬ X k) (hB : ∀ k, k < w.heap.size → B k → B' k) : RX w' B' s l :=
 ⟨h.len, hf.atO (fun a ha => hX _ (h.far a ha).1) h.cells, fun a ha => ⟨hB _ (h.far a ha).2 (h.far a ha).1, Nat.lt_of_lt_of_le (h.far a ha).2 hf.size⟩⟩
theorem RX.ext (h : RX w B s l) (hf : Ext w w') : RX w' B s l := h.fr (X := fun _ => False) (Fr.of hf) (fun _ _ h => h) fun _ _ h => h
theorem RX.mono (h : RX w B s l) (hB : ∀ k, k < w.heap.size → B k → B' k) : RX w B' s l := h.fr (X := fun _ => False) (Fr.refl w) (fun _ _ h => h) hB
theorem RAt.fr {X : Nat → Prop} (h : RAt w B cs P) (hf : Fr X w w') (hX : ∀ k, B k → ¬ X k) (hB : ∀ k, k < w.heap.size → B k → B' k) : RAt w' B' cs P := by
 obtain ⟨s, h1, h2⟩ := h
 exact ⟨s, h1, h2.fr hf hX hB⟩
theorem RAt.ext (h : RAt w B cs P) (hf : Ext w w') : RAt w' B cs P := h.fr (X := fun _ => False) (Fr.of hf) (fun _ _ h => h) fun _ _ h => h
theorem RAt.mono (h : RAt w B cs P) (hB : ∀ k, k < w.heap.size → B k → B' k) : RAt w B' cs P := h.fr (X := fun _ => False) (Fr.refl w) (fun _ _ h => h) hB
theorem RAt.len (h : RAt w B cs P) : cs.length = 4 := by obtain ⟨s, rfl, _⟩ := h; rfl
theorem RAt.one (h : RAt w B cs P) : ∀ v ∈ cs, v.oneCell' = true := by obtain ⟨s, rfl, _⟩ := h; exact rc_one s P
theorem RX.get (h : RX w B s l) {i : Nat} (hi : i < l.length) : ∃ a, s.a = some a ∧ At w (a.add (i * 3)) (rfC (fAt l i)) := by
 have e := flatMap_at rfC (n := 3) (fun _ => rfl) l i hi
 have hl : i * 3 < (l.flatMap rfC).length := by rw [flatMap_len rfC (n := 3) (fun _ => rfl)]; omega
 obtain ⟨a, ha, _⟩ := h.cells.some_of (List.getElem?_eq_getElem hl)
 have hc := h.cells
 rw [ha] at hc
 exact ⟨a, ha, by rw [fAt_lt hi, ← e]; exact At.sub hc _ _⟩
end
def numO (o : Option Nat) : Int := match o with
 | some i => (i : Int)
 | none => -1
theorem at_ok (w : World) (B : Nat → Prop) (cs : List Value) (P : Pl) (h : RAt w B cs P) (hl : P.fr.length ≤ 64) (n : Int) :
  Calls Try.prog 18 #[aggv cs, .int .i64 n] w (Ret r18 fun x w' => x = numO (atF P.fr n) ∧ Ext w w') := by
 obtain ⟨s, rfl, h⟩ := h
 apply s18_calls
 intro b1 w2 hb1 hw2
 have hx2 : Ext w w2 := Ext.new hw2
 have hB : Blk w2 b1 31 (rc s P) := Blk.new hb1 hw2
 have h2 := h.ext hx2
 have hsl := h.len
 refine ⟨fun st w' => w' = w2 ∧ ∃ k : Nat, k ≤ P.fr.length ∧ st = (k : Int) ∧ ∀ j, j < k → (fAt P.fr j).page ≠ n, fun st _ => P.fr.length - st.toNat, ⟨rfl, 0, Nat.zero_le _, rfl, fun j hj => by omega⟩, ?_⟩
 rintro st w' ⟨rfl, k, hk, rfl, hj⟩
 refine ⟨s, by rw [add_plain]; exact hB.cell rfl, fun hlt => ?_, fun hge => ?_⟩
 ·have hlt : k < P.fr.length := by have := of_decide_eq_true hlt; omega
  obtain ⟨a, ha, hc⟩ := h2.get hlt
  refine ⟨s, by rw [add_plain]; exact hB.cell rfl, a, _, ha, by omega, by omega, rfl, (fAt P.fr k).page, ?_, fun he => ?_, fun he => ?_⟩
  ·have := hc 0 _ (show (rfC (fAt P.fr k))[0]? = some (.int .i64 (fAt P.fr k).page) from rfl)
   rw [Int.toNat_natCast]; exact this
  ·have he := of_decide_eq_true he
   rw [atF_of hlt he hj]
   exact ⟨rfl, hx2⟩
  ·have he := of_decide_eq_false he
   rw [w64_eq (by omega) (by omega)]
   refine ⟨⟨rfl, k + 1, by omega, by omega, fun j hjk => ?_⟩, by simp only; omega⟩
   rcases Nat.lt_or_ge j k with hh | hh
   ·exact hj j hh
   ·obtain rfl : j = k := by omega
    exact he
 ·have hge : k = P.fr.length := by have := of_decide_eq_false hge; omega
  subst hge
  rw [atF_of_none hj]
  exact ⟨rfl, hx2⟩
theorem splice_all {xs ys : List Value} {n : Nat} (hx : xs.length = n) (hy : ys.length = n) : splice ys 0 xs = xs := by
 unfold splice
 rw [List.take_zero, List.nil_append, Nat.zero_add, List.drop_of_length_le (by omega), List.append_nil]
theorem with_ok (w : World) (B : Nat → Prop) (cs : List Value) (P : Pl) (h : RAt w B cs P) (hl : P.fr.length ≤ 64) (i : Nat) (hi : i < P.fr.length) (f : Fm) :
  Calls Try.prog 19 #[aggv cs, .int .i64 (i : Int), aggv (rfC f)] w (Ret r19 fun x w' => RAt w' (fun k => w.heap.size ≤ k) x (P.setF i f) ∧ Ext w w') := by
 obtain ⟨s, rfl, h⟩ := h
 apply s19_calls
 intro b1 w2 hb1 hw2 b3 w4 hb3 hw4 b5 w6 hb5 hw6 b7 w8 hb7 hw8
 have hx2 : Ext w w2 := Ext.new hw2
 have hx4 : Ext w2 w4 := Ext.new hw4
 have hx6 : Ext w4 w6 := Ext.new hw6
 have hx8 : Ext w6 w8 := Ext.new hw8
 have hx06 := hx2.trans (hx4.trans hx6)
 have hB1 : Blk w6 b1 31 (rc s P) := (Blk.new hb1 hw2).ext (hx4.trans hx6)
 have hB3 : Blk w6 b3 52 (rfC f) := (Blk.new hb3 hw4).ext hx6
 have hB5 : Blk w6 b5 31 _ := Blk.new hb5 hw6
 have hsl := h.len
 refine ⟨s, by rw [add_plain]; exact (hB1.ext hx8).cell rfl, ?_⟩
 refine app_ok (base := w6.heap.size) mkz_29' rfl (by decide) (Own.made (e := 52) (size := 3) (c := 0) hb7 hw8 (Nat.le_refl _) rfl (by simp [maxLen])) (news := P.fr.flatMap rfC)
  (by rw [flatMap_len rfC rfC_len, hsl]) (Ext.atO (hx06.trans hx8) h.cells) (rfs_one _) (by show 0 + s.len ≤ maxLen; simp only [maxLen]; omega) (by show (0 + s.len) * 32 ≤ _; omega) hx8.size ?_
 intro x w11 hl' ho' _ hB'
 have hx11 : Ext w6 w11 := hB' _ _ hx8 (Nat.le_refl _) hx8.size
 have hl' : x.len = P.fr.length := by rw [hl']; show 0 + s.len = _; omega
 rw [List.nil_append] at ho'
 obtain ⟨g, rest, hxa, hgb, hG, hcap⟩ := ho'.blk (by omega)
 have hB1 := hB1.ext hx11
 have hB3 := hB3.ext hx11
 have hB5 := hB5.ext hx11
 have l1 := (Blk.new hb1 hw2).lt
 have l3 := (Blk.new hb3 hw4).lt
 have l5 := (Blk.new hb5 hw6).lt
 have s24 := hx4.size
 have s46 := hx6.size
 have s02 := hx2.size
 refine ⟨rfC f, rfl, hB3.at rfl, ⟨g, 0, none⟩, _, hxa, by omega, by omega, rfl, ?_⟩
 show stA _ _ _ _ _
 rw [add_plain, Nat.zero_add, Int.toNat_natCast]
 have hlr : i * 3 + 3 ≤ (P.fr.flatMap rfC ++ rest).length := by
  rw [List.length_append, flatMap_len rfC rfC_len]; omega
 refine stA_blk (cs := rfC f) hG rfl hlr (rfC_one _) fun w15 hG15 hf15 => ?_
 rw [flatMap_splice rfC rfC_len rest f P.fr i hi] at hG15
 have hB1 := hB1.fr hf15 (show ¬ b1 = g by omega)
 have hB5 := hB5.fr hf15 (show ¬ b5 = g by omega)
 show st1 _ _ _ _
 rw [add_plain]
 refine st1_blk hB1 (by simp) fun w16 hB1' hf16 => ?_
 have hB5 := hB5.fr hf16 (show ¬ b5 = b1 by omega)
 have hG16 := hG15.fr hf16 (show ¬ g = b1 by omega)
 have hB1' : Blk w16 b1 31 (rc x (P.setF i f)) := hB1'
 refine ⟨rc x (P.setF i f), rfl, hB1'.at rfl, ?_⟩
 show stA _ _ _ _ _
 refine stA_blk hB5 rfl (by simp) (rc_one _ _) fun w18 hB5' hf18 => ?_
 rw [splice_all (n := 4) rfl rfl] at hB5'
 have hG18 := hG16.fr hf18 (show ¬ g = b5 by omega)
 refine ⟨_, rfl, hB5'.at rfl, ⟨x, rfl, by rw [hl']; simp [Pl.setF], ?_, ?_⟩, ?_⟩
 ·rw [hxa]
  refine hG18.at ?_
  rw [List.drop_zero, List.take_left']
  ·rfl
  ·rfl
 ·intro a ha
  rw [hxa] at ha
  cases ha
  have := hG18.lt
  exact ⟨by show w.heap.size ≤ g; omega, this⟩
 ·refine hf18.ext (hf16.ext (hf15.ext (hx06.trans hx11) fun k _ e => ?_) fun k _ e => ?_) fun k _ e => ?_
  ·rw [e]; omega
  ·rw [e]; omega
  ·rw [e]; omega
theorem ref_new_ok (w : World) (n : Nat) (hn : n ≤ 64) : Calls Try.prog 7 #[.int .i64 (n : Int)] w (Ret r7 fun x w' => RAt w' (fun k => w.heap.size ≤ k) x (newP n) ∧ Ext w w') := by
 apply s7_calls
 intro b1 w2 hb1 hw2
 refine ⟨rfl, rc_one nilSl ⟨[], 0, 0, 0⟩, fun b3 w4 hb3 hw4 => ?_⟩
 have hx2 : Ext w w2 := Ext.new hw2
 have hx4 : Ext w2 w4 := Ext.new hw4
 have hB1 : Blk w4 b1 31 _ := (Blk.new hb1 hw2).ext hx4
 have hB3 : Blk w4 b3 31 (rc nilSl ⟨[], 0, 0, 0⟩) := Blk.new hb3 hw4
 have l1 := (Blk.new hb1 hw2).lt
 have l3 := (Blk.new hb3 hw4).lt
 have s24 := hx4.size
 have s02 := hx2.size
 refine ⟨fun st w' => Ext w w' ∧ w4.heap.size ≤ w'.heap.size ∧ Blk w' b1 31 (rc nilSl ⟨[], 0, 0, 0⟩) ∧ ∃ (i : Nat) (sl : Sl), i ≤ n ∧ st = (i : Int) ∧ sl.len = i ∧ Own w' w4.heap.size 52 3 sl ((List.replicate i emF).flatMap rfC) ∧ Blk w' b3 31 (rc sl ⟨[], 0, 0, 0⟩), fun st _ => n - st.toNat,
  ⟨hx2.trans hx4, Nat.le_refl _, hB1, 0, nilSl, Nat.zero_le _, rfl, rfl, Own.nil _ _ _ _, hB3⟩, ?_⟩
 rintro st w5 ⟨hx5, hs5, hB1, i, sl, hi, rfl, hsl, ho, hB3⟩
 refine ⟨fun hlt => ?_, fun hge => ?_⟩
 ·have hlt : i < n := by have := of_decide_eq_true hlt; omega
  refine ⟨sl, by rw [add_plain]; exact hB3.cell rfl, rfl, rfC_one emF, fun b6 w6 hb6 hw6 => ?_⟩
  have hx6 : Ext w5 w6 := Ext.new hw6
  refine app_ok (base := w4.heap.size) mkz_29' rfl (by decide) (Own.ext hx6 ho) (news := rfC emF) rfl (At.new hb6 hw6) (rfC_one emF) (by show sl.len + 1 ≤ maxLen; simp only [maxLen]; omega) (by show (sl.len + 1) * 32 ≤ _; omega) (by have := hx6.size; omega) ?_
  intro x w7 hl' ho' _ hB'
  have hl' : x.len = sl.len + 1 := hl'
  have hx47 : Ext w4 w6 → Ext w4 w7 := fun h => hB' _ _ h (Nat.le_refl _) h.size
  have hgr7 : Ext w w7 := hB' _ _ (hx5.trans hx6) (by omega) (by have := (hx5.trans hx6).size; omega)
  -- the two blocks that were there at w4
  have key : ∀ b cs, b < w4.heap.size → Blk w5 b 31 cs → Blk w7 b 31 cs := by
   intro b cs hb hB
   have hB6 := hB.ext hx6
   have hbel : Below w4.heap.size w6 w7 := hB' w4.heap.size w6 ⟨rfl, rfl, rfl, Nat.le_refl _, fun _ _ => rfl⟩ (Nat.le_refl _) (by have := hx6.size; omega)
   exact (hbel.block b hb).trans hB6
  have hB1 := key b1 _ (by omega) hB1
  have hB3 := key b3 _ (by omega) hB3
  have e : (List.replicate (i + 1) emF).flatMap rfC = (List.replicate i emF).flatMap rfC ++ rfC emF := by
   rw [List.replicate_succ', List.flatMap_append]
   simp
  rw [← e] at ho'
  show st1 _ _ _ _
  rw [add_plain]
  refine st1_blk hB3 (by simp) fun w8 hB3' hf8 => ?_
  have hs8 := hf8.size
  have hxs7 : w4.heap.size ≤ w7.heap.size := by
   have hbel : Below w4.heap.size w6 w7 := hB' w4.heap.size w6 ⟨rfl, rfl, rfl, Nat.le_refl _, fun _ _ => rfl⟩ (Nat.le_refl _) (by have := hx6.size; omega)
   have := hbel.size; have := hx6.size; omega
  have ho8 : Own w8 w4.heap.size 52 3 x ((List.replicate (i + 1) emF).flatMap rfC) := by
   refine hf8.own ?_ ho'
   intro a ha e
   rcases ho'.2 with ⟨h5, _⟩ | ⟨g, c, cur, h5, h6, _⟩
   ·obtain ⟨xa, xl, xc⟩ := x
    simp only [Value.slice.injEq] at h5
    simp only at ha
    rw [h5.1] at ha; cases ha
   ·obtain ⟨xa, xl, xc⟩ := x
    simp only [Value.slice.injEq] at h5
    simp only at ha
    rw [h5.1] at ha
    cases ha
    have e : g = b3 := e
    omega
  rw [w64_eq (by omega) (by omega)]
  exact ⟨⟨hf8.ext hgr7 fun k _ e => by rw [e]; omega, by omega, hB1.fr hf8 (show ¬ b1 = b3 by omega), i + 1, x, by omega, by omega, by omega, ho8, hB3'⟩, by simp only; omega⟩
 ·have hge : i = n := by have := of_decide_eq_false hge; omega
  subst hge
  refine ⟨rc sl ⟨[], 0, 0, 0⟩, rfl, hB3.at rfl, ?_⟩
  show stA _ _ _ _ _
  refine stA_blk hB1 rfl (by simp) (rc_one _ _) fun w6 hB1' hf6 => ?_
  rw [splice_all (n := 4) rfl rfl] at hB1'
  have ho6 : Own w6 w4.heap.size 52 3 sl ((List.replicate i emF).flatMap rfC) := by
   refine hf6.own ?_ ho
   intro a ha e
   rcases ho.2 with ⟨h5, _⟩ | ⟨g, c, cur, h5, h6, _⟩
   ·obtain ⟨xa, xl, xc⟩ := sl
    simp only [Value.slice.injEq] at h5
    simp only at ha
    rw [h5.1] at ha; cases ha
   ·obtain ⟨xa, xl, xc⟩ := sl
    simp only [Value.slice.injEq] at h5
    simp only at ha
    rw [h5.1] at ha
    cases ha
    have e : g = b1 := e
    omega
  refine ⟨_, rfl, hB1'.at rfl, ⟨sl, rfl, by rw [hsl]; simp [newP], ho6.at, ?_⟩, hf6.ext hx5 fun k _ e => by rw [e]; omega⟩
  intro a ha
  rcases ho6.2 with ⟨h5, _⟩ | ⟨g, c, cur, h5, h6, h7, _⟩
  ·obtain ⟨xa, xl, xc⟩ := sl
   simp only [Value.slice.injEq] at h5
   simp only at ha
   rw [h5.1] at ha; cases ha
  ·obtain ⟨xa, xl, xc⟩ := sl
   simp only [Value.slice.injEq] at h5
   simp only at ha
   rw [h5.1] at ha
   cases ha
   exact ⟨by show w.heap.size ≤ g; omega, (Array.getElem?_eq_some_iff.1 h7).1⟩
end Go.Proofs.Ytijopkmclcbehaa
end
section
/- The document's Get, Put and Drop. -/
namespace Go.Proofs.Ytijopkmclcbehaa
open Go.Lift Go.Lift.Pool Go.RowKit
abbrev zc : List Value := [Value.slice none 0 0, Value.int .i64 0, Value.int .i64 0, Value.int .i64 0]
theorem numO_lt {o : Option Nat} : numO o < 0 ↔ o = none := by
 cases o with
 | none => simp [numO]
 | some i => simp [numO]
theorem ref_drop_ok (w : World) (B : Nat → Prop) (cs : List Value) (P : Pl) (h : RAt w B cs P) (hwf : P.Wf) (n : Int) :
  Calls Try.prog 12 #[aggv cs, .int .i64 n] w (Ret r12 fun x w' => x.2 = (P.drop n).2 ∧ RAt w' (fun k => B k ∨ w.heap.size ≤ k) x.1 (P.drop n).1 ∧ Ext w w') := by
 have hone := h.one
 have hlen := h.len
 apply s12_calls
 intro b1 w2 hb1 hw2 b3 w4 hb3 hw4
 have hx2 : Ext w w2 := Ext.new hw2
 have hx4 : Ext w2 w4 := Ext.new hw4
 have hx04 := hx2.trans hx4
 have hB1 : Blk w4 b1 31 cs := (Blk.new hb1 hw2).ext hx4
 have hB3 : Blk w4 b3 31 zc := Blk.new hb3 hw4
 have l1 := (Blk.new hb1 hw2).lt
 have l3 := hB3.lt
 have s02 := hx2.size
 have hat1 : ∀ w', Ext w4 w' → At w' ⟨b1, 0, none⟩ cs := fun w' hx => (hB1.ext hx).at (by rw [List.drop_zero, List.take_length])
 refine jn_of fun k1 hk1 => ?_
 have key : ∀ (b : Bool) (w5 : World), Ext w4 w5 → (b = true ↔ P.find n = none) → k1 b w5 := by
  intro b w5 hx5 hb
  rw [hk1]
  have hx05 := hx04.trans hx5
  have hB3 := hB3.ext hx5
  unfold Pl.drop
  refine ⟨fun ht => ?_, fun hf => ?_⟩
  ·rw [hb.1 ht]
   refine ⟨cs, hlen, hat1 w5 hx5, ?_⟩
   show stA _ _ _ _ _
   refine stA_blk hB3 hlen (by simp) hone fun w6 hB3' hf6 => ?_
   rw [splice_all (n := 4) hlen rfl] at hB3'
   have hx06 : Ext w w6 := hf6.ext hx05 fun k _ e => by rw [e]; omega
   exact ⟨cs, hlen, hB3'.at (by rw [List.drop_zero, List.take_length]), rfl, (h.ext hx06).mono fun k _ hk => .inl hk, hx06⟩
  ·cases hfd : P.find n with
   | none => rw [hb.2 hfd] at hf; cases hf
   | some i =>
    obtain ⟨h0, hil, hpg, ha⟩ := find_some hfd
    intro w6 hw6
    have hx6 : Ext w5 w6 := by rw [hw6]; exact Ext.drew _
    refine ⟨cs, hlen, hat1 w5 hx5, cs, hlen, hat1 w5 hx5, ?_⟩
    refine cR_of (at_ok w6 B cs P (h.ext (hx05.trans hx6)) hwf.few n) fun x w7 hh => ?_
    obtain ⟨rfl, hx7⟩ := hh
    rw [ha]
    refine ⟨hx6.trans hx7, ?_⟩
    refine cR_of (with_ok w7 B cs P (h.ext (hx05.trans (hx6.trans hx7))) hwf.few i hil emF) fun x w8 hh => ?_
    obtain ⟨hr, hx8⟩ := hh
    have hx58 := hx6.trans (hx7.trans hx8)
    show stA _ _ _ _ _
    refine stA_blk (hB3.ext hx58) hr.len (by simp) hr.one fun w9 hB9 hf9 => ?_
    rw [splice_all (n := 4) hr.len rfl] at hB9
    have hx09 : Ext w w9 := hf9.ext (hx05.trans hx58) fun k _ e => by rw [e]; omega
    refine ⟨x, hr.len, hB9.at (by rw [List.drop_zero, List.take_length]), rfl, hr.fr hf9 (fun k hk e => ?_) (fun k _ hk => .inr ?_), hx09⟩
    ·have := (hx5.trans (hx6.trans hx7)).size
     have hk : w7.heap.size ≤ k := hk
     have e : k = b3 := e
     omega
    ·have := (hx05.trans (hx6.trans hx7)).size
     have hk : w7.heap.size ≤ k := hk
     omega
 refine ⟨fun hn => key true w4 (Ext.refl w4) ?_, fun hn => ?_⟩
 ·have hn := of_decide_eq_true hn
  unfold Pl.find
  rw [if_neg (by omega)]
  simp
 ·have hn := of_decide_eq_false hn
  refine ⟨cs, hlen, hat1 w4 (Ext.refl w4), ?_⟩
  refine cR_of (at_ok w4 B cs P (h.ext hx04) hwf.few n) fun x w5 hh => ?_
  obtain ⟨rfl, hx5⟩ := hh
  refine key _ w5 hx5 ?_
  rw [decide_eq_true_iff, numO_lt]
  unfold Pl.find
  rw [if_pos (by omega)]
theorem ref_get_ok (w : World) (B : Nat → Prop) (cs : List Value) (P : Pl) (h : RAt w B cs P) (hwf : P.Wf) (hc : P.hits + P.misses ≤ 1000000) (n : Int) :
  Calls Try.prog 9 #[aggv cs, .int .i64 n] w (Ret r9 fun x w' => x.2 = (P.get n).2 ∧ RAt w' (fun k => B k ∨ w.heap.size ≤ k) x.1 (P.get n).1 ∧ Ext w w') := by
 have hone := h.one
 have hlen := h.len
 apply s9_calls
 intro b1 w2 hb1 hw2 b3 w4 hb3 hw4
 have hx2 : Ext w w2 := Ext.new hw2
 have hx4 : Ext w2 w4 := Ext.new hw4
 have hx04 := hx2.trans hx4
 have hB1 : Blk w4 b1 31 cs := (Blk.new hb1 hw2).ext hx4
 have hB3 : Blk w4 b3 31 zc := Blk.new hb3 hw4
 have l1 := (Blk.new hb1 hw2).lt
 have l3 := hB3.lt
 have s02 := hx2.size
 refine jn_of fun k1 hk1 => ?_
 have key : ∀ (w5 : World), Ext w4 w5 → k1 (numO (P.find n)) w5 := by
  intro w5 hx5
  rw [hk1]
  have hx05 := hx04.trans hx5
  have hB1 := hB1.ext hx5
  have hB3 := hB3.ext hx5
  obtain ⟨s, rfl, hr⟩ := h
  have hr5 := hr.ext hx05
  have hs5 := hx05.size
  unfold Pl.get
  cases hfd : P.find n with
  | none =>
   refine ⟨fun _ => ?_, fun hf => absurd (of_decide_eq_false hf) (by simp [numO])⟩
   refine ⟨(P.misses : Int), by rw [add_plain]; exact hB1.cell rfl, ?_⟩
   show st1 _ _ _ _
   rw [add_plain]
   refine st1_blk hB1 (by simp) fun w6 hB6 hf6 => ?_
   rw [w64_eq (by omega) (by omega)] at hB6
   have hB6 : Blk w6 b1 31 (rc s { P with misses := P.misses + 1 }) := hB6
   have hB36 := hB3.fr hf6 (show ¬ b3 = b1 by omega)
   refine ⟨rc s { P with misses := P.misses + 1 }, rfl, hB6.at rfl, ?_⟩
   show stA _ _ _ _ _
   refine stA_blk hB36 rfl (by simp) (rc_one _ _) fun w7 hB7 hf7 => ?_
   rw [splice_all (n := 4) rfl rfl] at hB7
   have hx06 : Ext w w6 := hf6.ext hx05 fun k _ e => by rw [e]; omega
   have hx07 : Ext w w7 := hf7.ext hx06 fun k _ e => by rw [e]; omega
   exact ⟨_, rfl, hB7.at rfl, rfl, ⟨s, rfl, (hr.ext hx07).mono fun k _ hk => .inl hk⟩, hx07⟩
  | some i =>
   obtain ⟨h0, hil, hpg, ha⟩ := find_some hfd
   refine ⟨fun hf => absurd (of_decide_eq_true hf) (by simp [numO]), fun _ => ?_⟩
   refine ⟨(P.hits : Int), by rw [add_plain]; exact hB1.cell rfl, ?_⟩
   show st1 _ _ _ _
   rw [add_plain]
   refine st1_blk hB1 (by simp) fun w6 hB6 hf6 => ?_
   rw [w64_eq (by omega) (by omega)] at hB6
   have hB6 : Blk w6 b1 31 (rc s { P with hits := P.hits + 1 }) := hB6
   have hB36 := hB3.fr hf6 (show ¬ b3 = b1 by omega)
   have hx06 : Ext w w6 := hf6.ext hx05 fun k _ e => by rw [e]; omega
   have hr6 := hr.ext hx06
   obtain ⟨a, hsa, hc6⟩ := hr6.get hil
   have hsl := hr.len
   refine ⟨s, by rw [add_plain]; exact hB6.cell rfl, a, _, hsa, by show (0 : Int) ≤ (i : Int); omega, by show (i : Int) < (s.len : Int); omega, rfl, rfC (fAt P.fr i), rfl, ?_, ?_⟩
   ·show At w6 (a.add ((i : Int).toNat * 3)) _
    rw [Int.toNat_natCast]; exact hc6
   refine ⟨rfl, rfC_one _, fun b7 w7 hb7 hw7 => ?_⟩
   have hx7 : Ext w6 w7 := Ext.new hw7
   have hB7 : Blk w7 b7 52 (rfC (fAt P.fr i)) := Blk.new hb7 hw7
   have l36 := hB36.lt
   have l16 := hB6.lt
   show st1 _ _ _ _
   rw [add_plain]
   refine st1_blk hB7 (by simp [rfC]) fun w8 hB8 hf8 => ?_
   have hB8 : Blk w8 b7 52 (rfC { fAt P.fr i with mark := true }) := hB8
   have hB18 := (hB6.ext hx7).fr hf8 (show ¬ b1 = b7 by omega)
   have hB38 := (hB36.ext hx7).fr hf8 (show ¬ b3 = b7 by omega)
   have hs67 := hx7.size
   have hs6 := hx06.size
   have hx08 : Ext w w8 := hf8.ext (hx06.trans hx7) fun k _ e => by rw [e]; omega
   intro w9 hw9
   have hx9 : Ext w8 w9 := by rw [hw9]; exact Ext.drew _
   refine ⟨by simp; omega, rc s { P with hits := P.hits + 1 }, rfl, hB18.at rfl, by simp; omega, rfC { fAt P.fr i with mark := true }, rfl, hB8.at rfl, ?_⟩
   refine ⟨by rw [add_plain]; simp; omega, (fAt P.fr i).bs, by rw [add_plain]; exact hB8.cell rfl, ?_⟩
   have hrat : RAt w9 B (rc s { P with hits := P.hits + 1 }) { P with hits := P.hits + 1 } := ⟨s, rfl, (hr.ext hx08).ext hx9⟩
   refine cR_of (with_ok w9 B _ { P with hits := P.hits + 1 } hrat hwf.few i hil { fAt P.fr i with mark := true }) fun x w10 hh => ?_
   obtain ⟨hr10, hx10⟩ := hh
   refine ⟨hx10, ?_⟩
   show stA _ _ _ _ _
   have hx810 := hx9.trans hx10
   refine stA_blk (hB38.ext hx810) hr10.len (by simp) hr10.one fun w11 hB11 hf11 => ?_
   rw [splice_all (n := 4) hr10.len rfl] at hB11
   have hx11 : Ext w w11 := hf11.ext (hx08.trans hx810) fun k _ e => by rw [e]; omega
   have hs8 := hf8.size
   refine ⟨x, hr10.len, hB11.at (by rw [List.drop_zero, List.take_length]), rfl, hr10.fr hf11 (fun k hk e => ?_) (fun k _ hk => .inr ?_), hx11⟩
   ·have := hx9.size
    have hk : w9.heap.size ≤ k := hk
    have e : k = b3 := e
    omega
   ·have := hx9.size
    have hk : w9.heap.size ≤ k := hk
    omega
 refine ⟨fun hn => ?_, fun hn => ?_⟩
 ·have hn := of_decide_eq_true hn
  refine ⟨cs, hlen, hB1.at (by rw [List.drop_zero, List.take_length]), ?_⟩
  refine cR_of (at_ok w4 B cs P (h.ext hx04) hwf.few n) fun x w5 hh => ?_
  obtain ⟨rfl, hx5⟩ := hh
  have := key w5 hx5
  unfold Pl.find at this
  rw [if_pos hn] at this
  exact this
 ·have hn := of_decide_eq_false hn
  have := key w4 (Ext.refl w4)
  unfold Pl.find at this
  rw [if_neg hn] at this
  exact this
end Go.Proofs.Ytijopkmclcbehaa
end
section
/- The document's Put. -/
namespace Go.Proofs.Ytijopkmclcbehaa
open Go.Lift Go.Lift.Pool Go.RowKit
def PhA (P : Pl) (n : Int) (k : Nat) (st : Int × Int) (P1 : Pl) : Prop :=
 st = (-1, -1) ∧ atF P.fr n = none ∧ atF P.fr (-1) = none ∧ P1 = { P with fr := P1.fr, hand := P1.hand } ∧ clk (marks P1.fr) P1.fr P1.hand = clk (marks P.fr) P.fr P.hand ∧ marks P1.fr < k
def PhB (P : Pl) (n : Int) (bs : List UInt8) (st : Int × Int) (P1 : Pl) : Prop := ∃ i : Nat, st.1 = (i : Int) ∧ i < P1.fr.length ∧ (P1.setF i ⟨n, true, bs⟩, st.2) = P.put n bs
def PJ (w : World) (B : Nat → Prop) (b1 b3 : Nat) (P : Pl) (n : Int) (bs : List UInt8) (k : Nat) (st : Int × Int) (w' : World) : Prop :=
 Ext w w' ∧ Blk w' b3 31 zc ∧ ∃ P1 s, Blk w' b1 31 (rc s P1) ∧ RX w' (fun k => (B k ∨ w.heap.size ≤ k) ∧ k ≠ b1 ∧ k ≠ b3) s P1.fr ∧ P1.Wf ∧ (PhA P n k st P1 ∨ PhB P n bs st P1)
theorem ref_put_ok (w : World) (B : Nat → Prop) (cs : List Value) (P : Pl) (h : RAt w B cs P) (hwf : P.Wf) (n : Int) (bs : List UInt8) (hbs : bs.length ≤ 1000) :
  Calls Try.prog 11 #[aggv cs, .int .i64 n, str bs] w (Ret r11 fun x w' => x.2 = (P.put n bs).2 ∧ RAt w' (fun k => B k ∨ w.heap.size ≤ k) x.1 (P.put n bs).1 ∧ Ext w w') := by
 have hone := h.one
 have hlen := h.len
 apply s11_calls
 intro b1 w2 hb1 hw2 b3 w4 hb3 hw4
 have hx2 : Ext w w2 := Ext.new hw2
 have hx4 : Ext w2 w4 := Ext.new hw4
 have hx04 := hx2.trans hx4
 have hB1 : Blk w4 b1 31 cs := (Blk.new hb1 hw2).ext hx4
 have hB3 : Blk w4 b3 31 zc := Blk.new hb3 hw4
 have l1 := (Blk.new hb1 hw2).lt
 have l3 := hB3.lt
 have s02 := hx2.size
 have hat1 : ∀ w', Ext w4 w' → At w' ⟨b1, 0, none⟩ cs := fun w' hx => (hB1.ext hx).at (by rw [List.drop_zero, List.take_length])
 refine ⟨fun hn => ?_, fun hn => ?_⟩
 ·have hn := of_decide_eq_true hn
  unfold Pl.put
  rw [if_pos hn]
  refine ⟨cs, hlen, hat1 w4 (Ext.refl w4), ?_⟩
  show stA _ _ _ _ _
  refine stA_blk hB3 hlen (by simp) hone fun w6 hB3' hf6 => ?_
  rw [splice_all (n := 4) hlen rfl] at hB3'
  have hx06 : Ext w w6 := hf6.ext hx04 fun k _ e => by rw [e]; omega
  exact ⟨cs, hlen, hB3'.at (by rw [List.drop_zero, List.take_length]), rfl, (h.ext hx06).mono fun k _ hk => .inl hk, hx06⟩
 have hn := of_decide_eq_false hn
 have hput : P.put n bs = (match atF P.fr n with
   | some i => (P.setF i ⟨n, true, bs⟩, -1)
   | none => (P.place.1.setF P.place.2 ⟨n, true, bs⟩, (fAt P.place.1.fr P.place.2).page)) := by
  unfold Pl.put
  rw [if_neg hn]
  rfl
 refine ⟨cs, hlen, hat1 w4 (Ext.refl w4), ?_⟩
 refine cR_of (at_ok w4 B cs P (h.ext hx04) hwf.few n) fun x w5 hh => ?_
 obtain ⟨rfl, hx5⟩ := hh
 refine jn_of fun k1 hk1 => ?_
 have key : ∀ (a : Int) (w6 : World), Ext w4 w6 → (PhA P n (marks P.fr + 1) (a, -1) P ∨ PhB P n bs (a, -1) P) → k1 a w6 := by
  intro a w6 hx6 hph
  rw [hk1]
  obtain ⟨s, rfl, hr⟩ := h
  have hx06 := hx04.trans hx6
  refine loopJ (PJ w B b1 b3 P n bs) (marks P.fr + 1) ⟨hx06, hB3.ext hx6, P, s, hB1.ext hx6, ((hr.mono (B' := fun k => B k ∧ k < w.heap.size) fun k hk hb => ⟨hb, hk⟩).ext hx06).mono (fun k _ hk => ⟨.inl hk.1, by have := hk.2; omega, by have := hk.2; omega⟩), hwf, hph⟩ ?_
  intro next k st w7 hJ hnext
  obtain ⟨hx7, hB37, P1, s1, hB17, hr7, hwf1, hph⟩ := hJ
  have hs7 := hx7.size
  have l17 := hB17.lt
  have l37 := hB37.lt
  have hfew := hwf1.few
  have hsl := hr7.len
  have hhd := hwf1.hand
  refine ⟨fun hlt => ?_, fun hge => ?_⟩
  ·have hlt := of_decide_eq_true hlt
   have hphA : PhA P n k st P1 := by
    rcases hph with hph | ⟨i, h1, _⟩
    ·exact hph
    ·omega
   obtain ⟨rfl, ha, ha2, hP1, hc, hk⟩ := hphA
   refine ⟨s1, by rw [add_plain]; exact hB17.cell rfl, (P1.hand : Int), by rw [add_plain]; exact hB17.cell rfl, ?_⟩
   obtain ⟨a0, hsa, hc7⟩ := hr7.get hhd
   refine ⟨a0, _, hsa, by omega, by omega, rfl, rfC (fAt P1.fr P1.hand), rfl, ?_, ?_⟩
   ·rw [Int.toNat_natCast]; exact hc7
   refine ⟨rfl, rfC_one _, fun b8 w8 hb8 hw8 => ?_⟩
   have hx8 : Ext w7 w8 := Ext.new hw8
   have hB8 : Blk w8 b8 52 (rfC (fAt P1.fr P1.hand)) := Blk.new hb8 hw8
   have hx08 := hx7.trans hx8
   have hs78 := hx8.size
   refine jn_of fun k2 hk2 => ?_
   have key2 : ∀ (st' : Int × Int) (w9 : World) (P2 : Pl) (s2 : Sl) (k' : Nat), Ext w w9 → Blk w9 b3 31 zc → Blk w9 b1 31 (rc s2 P2) → RX w9 (fun k => (B k ∨ w.heap.size ≤ k) ∧ k ≠ b1 ∧ k ≠ b3) s2 P2.fr → P2.Wf → k' < k →
     (PhA P n k' st' { P2 with hand := (P2.hand + 1) % P2.fr.length } ∨ PhB P n bs st' { P2 with hand := (P2.hand + 1) % P2.fr.length }) → k2 st' w9 := by
    intro st' w9 P2 s2 k' hx9 hB39 hB19 hr9 hwf2 hk' hph'
    rw [hk2]
    have hsl2 := hr9.len
    have hp2 := hwf2.pos
    have hf2 := hwf2.few
    have hh2 := hwf2.hand
    refine ⟨(P2.hand : Int), by rw [add_plain]; exact hB19.cell rfl, s2, by rw [add_plain]; exact hB19.cell rfl, by omega, ?_⟩
    have e1 : Int.tmod (IntKind.i64.wrap ((P2.hand : Int) + 1)) (s2.len : Int) = (((P2.hand + 1) % P2.fr.length : Nat) : Int) := by
     rw [w64_eq (by omega) (by omega), hsl2]
     rw [show (P2.hand : Int) + 1 = ((P2.hand + 1 : Nat) : Int) by omega]
     rfl
    rw [e1]
    show st1 _ _ _ _
    rw [add_plain]
    refine st1_blk hB19 (by simp) fun w10 hB10 hf10 => ?_
    have hB10 : Blk w10 b1 31 (rc s2 { P2 with hand := (P2.hand + 1) % P2.fr.length }) := hB10
    have hx10 : Ext w w10 := hf10.ext hx9 fun k _ e => by rw [e]; omega
    refine hnext k' _ w10 hk' ⟨hx10, hB39.fr hf10 (show ¬ b3 = b1 by omega), _, s2, hB10, hr9.fr hf10 (fun k hk e => hk.2.1 e) (fun k _ hk => hk), ⟨hwf2.pos, hwf2.few, Nat.mod_lt _ hp2, hwf2.page, hwf2.bs⟩, hph'⟩
   refine ⟨(fAt P1.fr P1.hand).mark, by rw [add_plain]; exact hB8.cell rfl, fun hm => ?_, fun hm => ?_⟩
   ·show st1 _ _ _ _
    rw [add_plain]
    refine st1_blk hB8 (by simp [rfC]) fun w9 hB9 hf9 => ?_
    have hB9 : Blk w9 b8 52 (rfC (unmark (fAt P1.fr P1.hand))) := hB9
    have hx09 : Ext w w9 := hf9.ext hx08 fun k _ e => by rw [e]; omega
    have hB19 := (hB17.ext hx8).fr hf9 (show ¬ b1 = b8 by omega)
    have hB39 := (hB37.ext hx8).fr hf9 (show ¬ b3 = b8 by omega)
    have hr9 : RX w9 (fun k => (B k ∨ w.heap.size ≤ k) ∧ k ≠ b1 ∧ k ≠ b3) s1 P1.fr :=
     ((hr7.mono (B' := fun k => ((B k ∨ w.heap.size ≤ k) ∧ k ≠ b1 ∧ k ≠ b3) ∧ k < w7.heap.size) fun k hk hb => ⟨hb, hk⟩).ext hx8).fr hf9 (fun k hk e => by have := hk.2; have e : k = b8 := e; omega) fun k _ hk => hk.1
    refine ⟨rc s1 P1, rfl, hB19.at rfl, (P1.hand : Int), by rw [add_plain]; exact hB19.cell rfl, rfC (unmark (fAt P1.fr P1.hand)), rfl, hB9.at rfl, ?_⟩
    refine cR_of (with_ok w9 _ (rc s1 P1) P1 ⟨s1, rfl, hr9⟩ hwf1.few P1.hand hhd (unmark (fAt P1.fr P1.hand))) fun x w10 hh => ?_
    obtain ⟨⟨s2, rfl, hr10⟩, hx10⟩ := hh
    show stA _ _ _ _ _
    refine stA_blk (hB19.ext hx10) rfl (by simp) (rc_one _ _) fun w11 hB11 hf11 => ?_
    rw [splice_all (n := 4) rfl rfl] at hB11
    have hx11 : Ext w w11 := hf11.ext (hx09.trans hx10) fun k _ e => by rw [e]; omega
    have hs9 := hf9.size
    have hmp := marks_pos hhd hm
    refine key2 (-1, -1) w11 (P1.setF P1.hand (unmark (fAt P1.fr P1.hand))) s2 (marks P1.fr) hx11 ((hB39.ext hx10).fr hf11 (show ¬ b3 = b1 by omega)) hB11 (hr10.fr hf11 (fun k hk e => ?_) fun k _ hk => ?_) (hwf1.set P1.hand (hwf1.page (fAt P1.fr P1.hand) (fAt_mem hhd)) (hwf1.bs (fAt P1.fr P1.hand) (fAt_mem hhd))) hk (.inl ?_)
    ·have hk : w9.heap.size ≤ k := hk
     have e : k = b1 := e
     omega
    ·have hk : w9.heap.size ≤ k := hk
     exact ⟨.inr (by omega), by omega, by omega⟩
    ·refine ⟨rfl, ha, ha2, ?_, ?_, ?_⟩
     ·rw [hP1]; rfl
     ·rw [← hc, clk_next hhd hm]
      show clk (marks (P1.fr.set _ _)) (P1.fr.set _ _) ((P1.hand + 1) % (P1.fr.set _ _).length) = _
      rw [List.length_set]
     ·show marks (P1.fr.set _ _) < _
      omega
   ·intro w9 hw9
    have hx9 : Ext w8 w9 := by rw [hw9]; exact Ext.drew _
    have hB18 := hB17.ext hx8
    refine ⟨(P1.hand : Int), by rw [add_plain]; exact hB18.cell rfl, (fAt P1.fr P1.hand).page, by rw [add_plain]; exact hB8.cell rfl, ?_⟩
    refine key2 _ w9 P1 s1 0 (hx08.trans hx9) (hB37.ext (hx8.trans hx9)) (hB18.ext hx9) (hr7.ext (hx8.trans hx9)) hwf1 (by omega) (.inr ⟨P1.hand, rfl, hhd, ?_⟩)
    have e3 := clk_stop hm (marks P1.fr)
    rw [hc] at e3
    rw [hput, ha]
    have hpl : P.place = ({ P with fr := P1.fr, hand := (P1.hand + 1) % P1.fr.length }, P1.hand) := by
     unfold Pl.place
     rw [ha2]
     simp only
     rw [e3]
    simp only
    rw [hpl]
    have e4 : ({ P1 with hand := (P1.hand + 1) % P1.fr.length } : Pl) = { P with fr := P1.fr, hand := (P1.hand + 1) % P1.fr.length } := by
     conv => lhs; rw [hP1]
    rw [e4]
  ·have hge := of_decide_eq_false hge
   have hphB : PhB P n bs st P1 := by
    rcases hph with ⟨h1, _⟩ | hph
    ·rw [h1] at hge; exact absurd (by decide) hge
    ·exact hph
   obtain ⟨i, hi, hil, hfin⟩ := hphB
   obtain ⟨st1', st2⟩ := st
   simp only at hi hfin
   subst hi
   refine ⟨rc s1 P1, rfl, hB17.at rfl, ?_⟩
   refine cR_of (with_ok w7 _ (rc s1 P1) P1 ⟨s1, rfl, hr7⟩ hwf1.few i hil ⟨n, true, bs⟩) fun x w8 hh => ?_
   obtain ⟨hr8, hx8⟩ := hh
   show stA _ _ _ _ _
   refine stA_blk (hB37.ext hx8) hr8.len (by simp) hr8.one fun w9 hB9 hf9 => ?_
   rw [splice_all (n := 4) hr8.len rfl] at hB9
   have hx9 : Ext w w9 := hf9.ext (hx7.trans hx8) fun k _ e => by rw [e]; omega
   rw [← hfin]
   refine ⟨x, hr8.len, hB9.at (by rw [List.drop_zero, List.take_length]), rfl, hr8.fr hf9 (fun k hk e => ?_) (fun k _ hk => .inr ?_), hx9⟩
   ·have hk : w7.heap.size ≤ k := hk
    have e : k = b3 := e
    omega
   ·have hk : w7.heap.size ≤ k := hk
    omega
 cases ha : atF P.fr n with
 | some i =>
  refine ⟨fun hf => absurd (of_decide_eq_true hf) (by simp [numO]), fun _ => ?_⟩
  refine key _ w5 hx5 (.inr ⟨i, rfl, (atF_some ha).1, ?_⟩)
  rw [hput, ha]
 | none =>
  refine ⟨fun _ => ?_, fun hf => absurd (of_decide_eq_false hf) (by simp [numO])⟩
  refine ⟨cs, hlen, hat1 w5 hx5, ?_⟩
  refine cR_of (at_ok w5 B cs P (h.ext (hx04.trans hx5)) hwf.few (-1)) fun x w6 hh => ?_
  obtain ⟨rfl, hx6⟩ := hh
  refine key _ w6 (hx5.trans hx6) ?_
  cases ha2 : atF P.fr (-1) with
  | none => exact .inl ⟨rfl, ha, ha2, rfl, rfl, by omega⟩
  | some i =>
   obtain ⟨hi1, hi2, _⟩ := atF_some ha2
   refine .inr ⟨i, rfl, hi1, ?_⟩
   rw [hput, ha]
   have hpl : P.place = (P, i) := by
    unfold Pl.place
    rw [ha2]
   simp only
   rw [hpl, hi2]
end Go.Proofs.Ytijopkmclcbehaa
end
section
/- The typed readings of the functions, and that the program meets each: written by gen.py (a program of this session). -/
namespace Go.Proofs.Ytijopkmclcbehaa
open Go.Lift
set_option maxRecDepth 100000 in
set_option maxHeartbeats 4000000 in
theorem s4_calls (K : Bool → World → Prop)  (w : World) (h : s4 K  w) :
  Calls Try.prog 4 #[] w (Ret r4 K) := by
 unfold s4 at h
 refine calls_of_CW (n := 58) Try.func4 rfl rfl rfl ?_
 refine CW.seq ?_
 refine CW.region ?_
 refine RL.opS trivial rfl (OpW.assign (v := .bool false) rfl ?_)
 refine RL.nil ?_
 refine CW.seq ?_
 refine CW.region ?_
 refine RL.opS trivial rfl (OpW.callR (al := [.int .i64 2]) Try.func6 fb_6 fn_6 rfl h (fun x1 w2 h => ?_))
 refine RL.opS trivial rfl (OpW.move (v := .tuple #[.pointer x1.1, .int .i64 x1.2]) rfl ?_)
 refine RL.opS trivial rfl (OpW.extract (v := .pointer x1.1) rfl rfl ?_)
 refine RL.opS trivial rfl (OpW.extract (v := .int .i64 x1.2) rfl rfl ?_)
 refine RL.opS trivial rfl (OpW.assign (v := .pointer x1.1) rfl ?_)
 refine RL.opS trivial rfl (OpW.assign (v := .int .i64 x1.2) rfl ?_)
 refine RL.nil ?_
 refine CW.seq ?_
 refine CW.seq ?_
 refine CW.region ?_
 refine RL.opS trivial rfl (OpW.move (v := .pointer x1.1) rfl ?_)
 refine RL.opS trivial rfl (OpW.ptrNil (b := x1.1.isNone) (p := x1.1) ptr_25 rfl rfl rfl ?_)
 refine RL.opS trivial rfl (OpW.move (v := .bool (x1.1.isNone)) rfl ?_)
 refine jn_elim h ?_; clear h; intro k69 hk70 h
 refine RL.joinAt (A := Bool) 3 (fun s5 ρ => ρ 16 = .bool s5 ∧ ρ 1 = .pointer x1.1) k69 ?_ ?_
 ·rintro s5 ρ w6 ⟨e7, e8⟩ h
  subst hk70
  dsimp only [List.drop]
  refine RL.opS trivial rfl (OpW.move (v := .bool s5) e7 ?_)
  refine jn_elim h ?_; clear h; intro k67 hk68 h
  refine RL.joinAt (A := Bool) 6 (fun s16 ρ => ρ 23 = .bool s16 ∧ ρ 1 = .pointer x1.1) k67 ?_ ?_
  ·rintro s16 ρ w17 ⟨e18, e19⟩ h
   subst hk68
   dsimp only [List.drop]
   refine RL.opS trivial rfl (OpW.move (v := .bool s16) e18 ?_)
   refine jn_elim h ?_; clear h; intro k65 hk66 h
   refine RL.joinAt (A := Bool) 6 (fun s27 ρ => ρ 30 = .bool s27 ∧ ρ 1 = .pointer x1.1) k65 ?_ ?_
   ·rintro s27 ρ w28 ⟨e29, e30⟩ h
    subst hk66
    dsimp only [List.drop]
    refine RL.opS trivial rfl (OpW.move (v := .bool s27) e29 ?_)
    refine jn_elim h ?_; clear h; intro k63 hk64 h
    refine RL.joinAt (A := Bool) 6 (fun s38 ρ => ρ 37 = .bool s38 ∧ ρ 1 = .pointer x1.1) k63 ?_ ?_
    ·rintro s38 ρ w39 ⟨e40, e41⟩ h
     subst hk64
     dsimp only [List.drop]
     refine RL.nil ?_
     obtain ⟨ha, hc⟩ := h
     refine CW.cond (b := s38) e40 (fun hb42 => ?_) (fun hb42 => ?_)
     ·have h := ha hb42; clear ha hc
      refine CW.seq ?_
      refine CW.region ?_
      refine RL.opS trivial rfl (OpW.assign (v := .bool false) rfl ?_)
      refine RL.nil ?_
      refine CW.ret ?_
      exact ret_intro (res1 rfl rfl) ⟨false, rfl, h⟩
     ·have h := hc hb42; clear ha hc
      refine CW.skip ?_
      refine CW.seq ?_
      refine CW.region ?_
      refine RL.opS trivial rfl (OpW.move (v := .pointer x1.1) e41 ?_)
      refine RL.opS trivial rfl (OpW.callR (al := [.pointer x1.1, .int .i64 2]) Try.func8 fb_8 fn_8 rfl h (fun x43 w44 h => ?_))
      refine RL.opS trivial rfl (OpW.move (v := .tuple #[Sl.v x43.1, .bool x43.2]) rfl ?_)
      refine RL.opS trivial rfl (OpW.extract (v := Sl.v x43.1) rfl rfl ?_)
      refine RL.opS trivial rfl (OpW.extract (v := .bool x43.2) rfl rfl ?_)
      refine RL.opS trivial rfl (OpW.assign (v := Sl.v x43.1) rfl ?_)
      refine RL.opS trivial rfl (OpW.assign (v := .bool x43.2) rfl ?_)
      refine RL.nil ?_
      refine CW.seq ?_
      refine CW.region ?_
      refine RL.opS trivial rfl (OpW.move (v := .pointer x1.1) e41 ?_)
      refine RL.opS trivial rfl (OpW.callR (al := [.pointer x1.1, .int .i64 1]) Try.func8 fb_8 fn_8 rfl h (fun x45 w46 h => ?_))
      refine RL.opS trivial rfl (OpW.move (v := .tuple #[Sl.v x45.1, .bool x45.2]) rfl ?_)
      refine RL.opS trivial rfl (OpW.extract (v := Sl.v x45.1) rfl rfl ?_)
      refine RL.opS trivial rfl (OpW.extract (v := .bool x45.2) rfl rfl ?_)
      refine RL.opS trivial rfl (OpW.assign (v := Sl.v x45.1) rfl ?_)
      refine RL.opS trivial rfl (OpW.assign (v := .bool x45.2) rfl ?_)
      refine RL.nil ?_
      refine CW.seq ?_
      refine CW.region ?_
      refine RL.opS trivial rfl (OpW.move (v := .bool x43.2) rfl ?_)
      refine RL.opS trivial rfl (OpW.move (v := .bool x43.2) rfl ?_)
      refine jn_elim h ?_; clear h; intro k61 hk62 h
      refine RL.joinAt (A := Bool) 4 (fun s50 ρ => ρ 53 = .bool s50 ∧ ρ 6 = .bool x45.2) k61 ?_ ?_
      ·rintro s50 ρ w51 ⟨e52, e53⟩ h
       subst hk62
       dsimp only [List.drop]
       refine RL.opS trivial rfl (OpW.move (v := .bool s50) e52 ?_)
       refine jn_elim h ?_; clear h; intro k59 hk60 h
       refine RL.joinAt (A := Bool) 3 (fun s56 ρ => ρ 57 = .bool s56) k59 ?_ ?_
       ·rintro s56 ρ w57 e58 h
        subst hk60
        dsimp only [List.drop]
        refine RL.opS trivial rfl (OpW.assign (v := .bool s56) e58 ?_)
        refine RL.nil ?_
        refine CW.ret ?_
        exact ret_intro (res1 rfl rfl) ⟨s56, rfl, h⟩
       ·clear hk60
        dsimp only [List.take]
        obtain ⟨ha, hc⟩ := h
        rcases Bool.eq_false_or_eq_true s50 with hb54 | hb54
        ·have h := ha hb54; clear ha hc
         refine RL.opS (wanted_of rfl rfl hb54) rfl (OpW.move (v := .bool x45.2) e53 ?_)
         refine RL.opS (wanted_of rfl rfl hb54) rfl (OpW.not rfl ?_)
         refine RL.opS trivial rfl (OpW.pick (b := true) (v := .bool (!x45.2)) (congrArg Value.bool hb54) rfl ?_)
         refine RL.nil ?_
         exact ⟨(!x45.2), rfl, h⟩
        ·have h := hc hb54; clear ha hc
         refine RL.skipS (notWanted_of rfl rfl hb54) rfl ?_
         refine RL.skipS (notWanted_of rfl rfl hb54) rfl ?_
         refine RL.opS trivial rfl (OpW.pick (b := false) (v := .bool false) (congrArg Value.bool hb54) rfl ?_)
         refine RL.nil ?_
         exact ⟨false, rfl, h⟩
      ·clear hk62
       dsimp only [List.take]
       obtain ⟨ha, hc⟩ := h
       rcases Bool.eq_false_or_eq_true x43.2 with hb47 | hb47
       ·have h := ha hb47; clear ha hc
        refine RL.opS (wanted_of rfl rfl hb47) rfl (OpW.move (v := Sl.v x43.1) rfl ?_)
        obtain ⟨x49, h1, h2, h⟩ := h
        refine RL.opS (wanted_of rfl rfl hb47) rfl (OpW.b2s bsl_33 str_9 rfl h1 h2 ?_)
        refine RL.opS (wanted_of rfl rfl hb47) rfl (OpW.strCmp (b := decide (x49 = [98])) rfl rfl rfl ?_)
        refine RL.opS trivial rfl (OpW.pick (b := true) (v := .bool (decide (x49 = [98]))) (congrArg Value.bool hb47) rfl ?_)
        refine RL.nil ?_
        exact ⟨(decide (x49 = [98])), ⟨rfl, rfl⟩, h⟩
       ·have h := hc hb47; clear ha hc
        refine RL.skipS (notWanted_of rfl rfl hb47) rfl ?_
        refine RL.skipS (notWanted_of rfl rfl hb47) rfl ?_
        refine RL.skipS (notWanted_of rfl rfl hb47) rfl ?_
        refine RL.opS trivial rfl (OpW.pick (b := false) (v := .bool false) (congrArg Value.bool hb47) rfl ?_)
        refine RL.nil ?_
        exact ⟨false, ⟨rfl, rfl⟩, h⟩
    ·clear hk64
     dsimp only [List.take]
     obtain ⟨ha, hc⟩ := h
     rcases Bool.eq_false_or_eq_true s27 with hb31 | hb31
     ·have h := ha hb31; clear ha hc
      refine RL.skipS (notWanted_of rfl rfl hb31) rfl ?_
      refine RL.skipS (notWanted_of rfl rfl hb31) rfl ?_
      refine RL.skipS (notWanted_of rfl rfl hb31) rfl ?_
      refine RL.skipS (notWanted_of rfl rfl hb31) rfl ?_
      refine RL.skipS (notWanted_of rfl rfl hb31) rfl ?_
      refine RL.opS trivial rfl (OpW.pick (b := true) (v := .bool true) (congrArg Value.bool hb31) rfl ?_)
      refine RL.nil ?_
      exact ⟨true, ⟨rfl, e30⟩, h⟩
     ·have h := hc hb31; clear ha hc
      refine RL.opS (wanted_of rfl rfl hb31) rfl (OpW.move (v := .pointer x1.1) e30 ?_)
      obtain ⟨b33, hb33_⟩ : ∃ b_, b_ = w28.heap.size := ⟨_, rfl⟩
      obtain ⟨w34, hw34_⟩ : ∃ w_, w_ = w28.alloc (.cells (List.toArray [.int .u8 99]) 5) := ⟨_, rfl⟩
      have h := h b33 w34 hb33_ hw34_
      refine RL.opS (wanted_of rfl rfl hb31) rfl (OpW.buildSliceE (vs := [(0, .int .u8 99)]) (cs := [.int .u8 99]) (by rfl) (by kernel_rfl) hb33_ hw34_ ?_)
      obtain ⟨b_, o_, c_, e_, fr_, h1, h2, h⟩ := h
      obtain ⟨w35, hw35_⟩ : ∃ w_, w_ = w34.freeze ⟨b_, c_.size, none⟩ 1 := ⟨_, rfl⟩
      have h := h w35 hw35_
      refine RL.opS (wanted_of rfl rfl hb31) rfl (OpW.markE bsl_33 rfl h1 h2 hw35_ ?_)
      refine RL.opS (wanted_of rfl rfl hb31) rfl (OpW.callR (al := [.pointer x1.1, .int .i64 3, Sl.v ⟨some ⟨b33, 0, none⟩, 1, 1⟩]) Try.func10 fb_10 fn_10 rfl h (fun x36 w37 h => ?_))
      refine RL.opS (wanted_of rfl rfl hb31) rfl (OpW.bin (k := .i64) (a := x36) (b := 1) (v := .bool (!decide (x36 = 1))) rfl rfl rfl ?_)
      refine RL.opS trivial rfl (OpW.pick (b := false) (v := .bool (!decide (x36 = 1))) (congrArg Value.bool hb31) rfl ?_)
      refine RL.nil ?_
      exact ⟨(!decide (x36 = 1)), ⟨rfl, e30⟩, h⟩
   ·clear hk66
    dsimp only [List.take]
    obtain ⟨ha, hc⟩ := h
    rcases Bool.eq_false_or_eq_true s16 with hb20 | hb20
    ·have h := ha hb20; clear ha hc
     refine RL.skipS (notWanted_of rfl rfl hb20) rfl ?_
     refine RL.skipS (notWanted_of rfl rfl hb20) rfl ?_
     refine RL.skipS (notWanted_of rfl rfl hb20) rfl ?_
     refine RL.skipS (notWanted_of rfl rfl hb20) rfl ?_
     refine RL.skipS (notWanted_of rfl rfl hb20) rfl ?_
     refine RL.opS trivial rfl (OpW.pick (b := true) (v := .bool true) (congrArg Value.bool hb20) rfl ?_)
     refine RL.nil ?_
     exact ⟨true, ⟨rfl, e19⟩, h⟩
    ·have h := hc hb20; clear ha hc
     refine RL.opS (wanted_of rfl rfl hb20) rfl (OpW.move (v := .pointer x1.1) e19 ?_)
     obtain ⟨b22, hb22_⟩ : ∃ b_, b_ = w17.heap.size := ⟨_, rfl⟩
     obtain ⟨w23, hw23_⟩ : ∃ w_, w_ = w17.alloc (.cells (List.toArray [.int .u8 98]) 5) := ⟨_, rfl⟩
     have h := h b22 w23 hb22_ hw23_
     refine RL.opS (wanted_of rfl rfl hb20) rfl (OpW.buildSliceE (vs := [(0, .int .u8 98)]) (cs := [.int .u8 98]) (by rfl) (by kernel_rfl) hb22_ hw23_ ?_)
     obtain ⟨b_, o_, c_, e_, fr_, h1, h2, h⟩ := h
     obtain ⟨w24, hw24_⟩ : ∃ w_, w_ = w23.freeze ⟨b_, c_.size, none⟩ 1 := ⟨_, rfl⟩
     have h := h w24 hw24_
     refine RL.opS (wanted_of rfl rfl hb20) rfl (OpW.markE bsl_33 rfl h1 h2 hw24_ ?_)
     refine RL.opS (wanted_of rfl rfl hb20) rfl (OpW.callR (al := [.pointer x1.1, .int .i64 2, Sl.v ⟨some ⟨b22, 0, none⟩, 1, 1⟩]) Try.func10 fb_10 fn_10 rfl h (fun x25 w26 h => ?_))
     refine RL.opS (wanted_of rfl rfl hb20) rfl (OpW.bin (k := .i64) (a := x25) (b := (-1)) (v := .bool (!decide (x25 = (-1)))) rfl rfl rfl ?_)
     refine RL.opS trivial rfl (OpW.pick (b := false) (v := .bool (!decide (x25 = (-1)))) (congrArg Value.bool hb20) rfl ?_)
     refine RL.nil ?_
     exact ⟨(!decide (x25 = (-1))), ⟨rfl, e19⟩, h⟩
  ·clear hk68
   dsimp only [List.take]
   obtain ⟨ha, hc⟩ := h
   rcases Bool.eq_false_or_eq_true s5 with hb9 | hb9
   ·have h := ha hb9; clear ha hc
    refine RL.skipS (notWanted_of rfl rfl hb9) rfl ?_
    refine RL.skipS (notWanted_of rfl rfl hb9) rfl ?_
    refine RL.skipS (notWanted_of rfl rfl hb9) rfl ?_
    refine RL.skipS (notWanted_of rfl rfl hb9) rfl ?_
    refine RL.skipS (notWanted_of rfl rfl hb9) rfl ?_
    refine RL.opS trivial rfl (OpW.pick (b := true) (v := .bool true) (congrArg Value.bool hb9) rfl ?_)
    refine RL.nil ?_
    exact ⟨true, ⟨rfl, e8⟩, h⟩
   ·have h := hc hb9; clear ha hc
    refine RL.opS (wanted_of rfl rfl hb9) rfl (OpW.move (v := .pointer x1.1) e8 ?_)
    obtain ⟨b11, hb11_⟩ : ∃ b_, b_ = w6.heap.size := ⟨_, rfl⟩
    obtain ⟨w12, hw12_⟩ : ∃ w_, w_ = w6.alloc (.cells (List.toArray [.int .u8 97]) 5) := ⟨_, rfl⟩
    have h := h b11 w12 hb11_ hw12_
    refine RL.opS (wanted_of rfl rfl hb9) rfl (OpW.buildSliceE (vs := [(0, .int .u8 97)]) (cs := [.int .u8 97]) (by rfl) (by kernel_rfl) hb11_ hw12_ ?_)
    obtain ⟨b_, o_, c_, e_, fr_, h1, h2, h⟩ := h
    obtain ⟨w13, hw13_⟩ : ∃ w_, w_ = w12.freeze ⟨b_, c_.size, none⟩ 1 := ⟨_, rfl⟩
    have h := h w13 hw13_
    refine RL.opS (wanted_of rfl rfl hb9) rfl (OpW.markE bsl_33 rfl h1 h2 hw13_ ?_)
    refine RL.opS (wanted_of rfl rfl hb9) rfl (OpW.callR (al := [.pointer x1.1, .int .i64 1, Sl.v ⟨some ⟨b11, 0, none⟩, 1, 1⟩]) Try.func10 fb_10 fn_10 rfl h (fun x14 w15 h => ?_))
    refine RL.opS (wanted_of rfl rfl hb9) rfl (OpW.bin (k := .i64) (a := x14) (b := (-1)) (v := .bool (!decide (x14 = (-1)))) rfl rfl rfl ?_)
    refine RL.opS trivial rfl (OpW.pick (b := false) (v := .bool (!decide (x14 = (-1)))) (congrArg Value.bool hb9) rfl ?_)
    refine RL.nil ?_
    exact ⟨(!decide (x14 = (-1))), ⟨rfl, e8⟩, h⟩
 ·clear hk70
  dsimp only [List.take]
  obtain ⟨ha, hc⟩ := h
  rcases Bool.eq_false_or_eq_true (x1.1.isNone) with hb3 | hb3
  ·have h := ha hb3; clear ha hc
   refine RL.skipS (notWanted_of rfl rfl hb3) rfl ?_
   refine RL.skipS (notWanted_of rfl rfl hb3) rfl ?_
   refine RL.opS trivial rfl (OpW.pick (b := true) (v := .bool true) (congrArg Value.bool hb3) rfl ?_)
   refine RL.nil ?_
   exact ⟨true, ⟨rfl, rfl⟩, h⟩
  ·have h := hc hb3; clear ha hc
   refine RL.opS (wanted_of rfl rfl hb3) rfl (OpW.move (v := .int .i64 x1.2) rfl ?_)
   refine RL.opS (wanted_of rfl rfl hb3) rfl (OpW.bin (k := .i64) (a := x1.2) (b := 0) (v := .bool (!decide (x1.2 = 0))) rfl rfl rfl ?_)
   refine RL.opS trivial rfl (OpW.pick (b := false) (v := .bool (!decide (x1.2 = 0))) (congrArg Value.bool hb3) rfl ?_)
   refine RL.nil ?_
   exact ⟨(!decide (x1.2 = 0)), ⟨rfl, rfl⟩, h⟩
end Go.Proofs.Ytijopkmclcbehaa
end
section
/- The typed readings of the functions, and that the program meets each: written by gen.py (a program of this session). -/
namespace Go.Proofs.Ytijopkmclcbehaa
open Go.Lift
set_option maxRecDepth 100000 in
set_option maxHeartbeats 4000000 in
theorem s5_calls (K : Bool → World → Prop) (p0 : Sl) (w : World) (h : s5 K p0 w) :
  Calls Try.prog 5 #[Sl.v p0] w (Ret r5 K) := by
 unfold s5 at h
 refine calls_of_CW (n := 19) Try.func5 rfl rfl rfl ?_
 refine CW.seq ?_
 refine CW.region ?_
 refine RL.opS trivial rfl (OpW.assign (v := .bool false) rfl ?_)
 refine RL.nil ?_
 refine CW.seq ?_
 refine CW.seq ?_
 refine CW.region ?_
 refine RL.opS trivial rfl (OpW.move (v := Sl.v p0) rfl ?_)
 refine RL.opS trivial rfl (OpW.len (s := p0) slice_22 rfl ?_)
 refine RL.opS trivial rfl (OpW.bin (k := .i64) (a := (p0.len : Int)) (b := 300) (v := .bool (decide (300 < (p0.len : Int)))) rfl rfl rfl ?_)
 refine RL.nil ?_
 obtain ⟨ha, hc⟩ := h
 refine CW.cond (b := (decide (300 < (p0.len : Int)))) rfl (fun hb1 => ?_) (fun hb1 => ?_)
 ·have h := ha hb1; clear ha hc
  refine CW.seq ?_
  refine CW.region ?_
  refine RL.opS trivial rfl (OpW.assign (v := .bool false) rfl ?_)
  refine RL.nil ?_
  refine CW.ret ?_
  exact ret_intro (res1 rfl rfl) ⟨false, rfl, h⟩
 ·have h := hc hb1; clear ha hc
  refine CW.skip ?_
  refine CW.seq ?_
  refine CW.seq ?_
  refine CW.region ?_
  refine RL.opS trivial rfl (OpW.move (v := Sl.v p0) rfl ?_)
  refine RL.opS trivial rfl (OpW.len (s := p0) slice_22 rfl ?_)
  refine RL.opS trivial rfl (OpW.move (v := .int .i64 0) rfl ?_)
  refine RL.nil ?_
  refine CW.block ?_
  obtain ⟨I16, mu17, hI, hs⟩ := h
  refine CW.loop (σ := Int) (fun s2 ρ => ρ 10 = .int .i64 s2 ∧ ρ 8 = Sl.v p0 ∧ ρ 9 = .int .i64 (p0.len : Int)) I16 mu17 0 ⟨rfl, rfl, rfl⟩ hI ?_
  rintro s2 ρ w3 ⟨e5, e6, e7⟩ hI
  have h := hs s2 w3 hI
  clear hs hI
  refine CW.seq ?_
  refine CW.region ?_
  refine RL.opS trivial rfl (OpW.bin (k := .i64) (a := s2) (b := (p0.len : Int)) (v := .bool (decide (s2 < (p0.len : Int)))) e5 e7 rfl ?_)
  refine RL.nil ?_
  refine CW.seq ?_
  obtain ⟨ha, hc⟩ := h
  refine CW.cond (b := (decide (s2 < (p0.len : Int)))) rfl (fun hb8 => ?_) (fun hb8 => ?_)
  ·have h := ha hb8; clear ha hc
   refine CW.skip ?_
   refine CW.seq ?_
   refine CW.block ?_
   refine CW.seq ?_
   refine CW.region ?_
   obtain ⟨a9_, a9, h1, h2, h3, h4, h⟩ := h
   refine RL.opS trivial rfl (OpW.indexE (a' := a9) slice_22 e6 e5 h1 h2 h3 h4 ?_)
   obtain ⟨x11, h1, h2, h⟩ := h
   refine RL.opS trivial rfl (OpW.loadA agg_35 rfl h1 h2 ?_)
   obtain ⟨hl_b12, ho_b12, h⟩ := h
   obtain ⟨b12, hb12_⟩ : ∃ b_, b_ = w3.heap.size := ⟨_, rfl⟩
   obtain ⟨w13, hw13_⟩ : ∃ w_, w_ = w3.alloc (.cells (List.toArray x11) 35) := ⟨_, rfl⟩
   have h := h b12 w13 hb12_ hw13_
   refine RL.opS trivial rfl (OpW.allocZ (b := b12) zero_35 hb12_ ?_)
   refine RL.opN trivial (OpW.storeF (zs := [Value.int .i64 0, Value.int .i64 0, Value.slice none 0 0]) (cs := x11) size_35 rfl rfl hl_b12 (by decide) ho_b12 hb12_ hw13_ ?_)
   refine RL.nil ?_
   refine CW.seq ?_
   refine CW.region ?_
   refine RL.opS trivial rfl (OpW.fieldAddr field_35_2 rfl ?_)
   obtain ⟨x14, h1, h⟩ := h
   refine RL.opS trivial rfl (OpW.load1 (v := Sl.v x14) one_33 rfl h1 ?_)
   refine RL.opS trivial rfl (OpW.len (s := x14) slice_33 rfl ?_)
   refine RL.opS trivial rfl (OpW.bin (k := .i64) (a := (x14.len : Int)) (b := 100) (v := .bool (decide (100 < (x14.len : Int)))) rfl rfl rfl ?_)
   refine RL.nil ?_
   obtain ⟨ha, hc⟩ := h
   refine CW.cond (b := (decide (100 < (x14.len : Int)))) rfl (fun hb15 => ?_) (fun hb15 => ?_)
   ·have h := ha hb15; clear ha hc
    refine CW.seq ?_
    refine CW.region ?_
    refine RL.opS trivial rfl (OpW.assign (v := .bool false) rfl ?_)
    refine RL.nil ?_
    refine CW.ret ?_
    exact ret_intro (res1 rfl rfl) ⟨false, rfl, h⟩
   ·have h := hc hb15; clear ha hc
    refine CW.skip ?_
    refine CW.region ?_
    refine RL.opS trivial rfl (OpW.bin (k := .i64) (a := s2) (b := 1) (v := .int .i64 (IntKind.i64.wrap (s2 + 1))) e5 rfl rfl ?_)
    refine RL.opS trivial rfl (OpW.move (v := .int .i64 (IntKind.i64.wrap (s2 + 1))) rfl ?_)
    refine RL.nil ?_
    exact ⟨(IntKind.i64.wrap (s2 + 1)), ⟨rfl, e6, e7⟩, h⟩
  ·have h := hc hb8; clear ha hc
   refine CW.exit ?_
   refine CW.seq ?_
   refine CW.region ?_
   refine RL.opS trivial rfl (OpW.assign (v := .bool true) rfl ?_)
   refine RL.nil ?_
   refine CW.ret ?_
   exact ret_intro (res1 rfl rfl) ⟨true, rfl, h⟩
end Go.Proofs.Ytijopkmclcbehaa
end
section
/- From a row's reading of a script to facts on its cells; which scripts fit; a pool of two frames. -/
namespace Go.Proofs.Ytijopkmclcbehaa
open Go.Lift Go.Lift.Pool Go.RowKit Go.ChangeShapes Go.WideShapes Go.ChangeAt Go.Deep
structure OpA where
 kind : Int
 n : Int
 sl : Sl
 bs : List UInt8
def OpA.cells (o : OpA) : List Value := [.int .i64 o.kind, .int .i64 o.n, o.sl.v]
theorem opCells_one (o : OpA) : ∀ v ∈ o.cells, v.oneCell' = true := by
 intro v hv
 simp only [OpA.cells, List.mem_cons, List.not_mem_nil, or_false] at hv
 rcases hv with rfl | rfl | rfl <;> rfl
structure OpsAt (w : World) (s : Sl) (l : List OpA) : Prop where
 len : s.len = l.length
 cells : AtO w s.a (l.flatMap OpA.cells)
 ok : ∀ o ∈ l, Bytes w o.sl o.bs
theorem OpsAt.ext {w w' : World} {s : Sl} {l : List OpA} (h : OpsAt w s l) (hx : Ext w w') : OpsAt w' s l :=
 ⟨h.len, Ext.atO hx h.cells, fun o ho => (h.ok o ho).ext hx⟩
theorem OpsAt.get {w : World} {s : Sl} {l : List OpA} (h : OpsAt w s l) {k : Nat} (hk : k < l.length) : ∃ a, s.a = some a ∧ At w (a.add (k * 3)) l[k].cells := by
 have e := flatMap_at OpA.cells (n := 3) (fun _ => rfl) l k hk
 have hl : k * 3 < (l.flatMap OpA.cells).length := by
  rw [flatMap_len OpA.cells (n := 3) (fun _ => rfl)]; omega
 obtain ⟨a, ha, _⟩ := h.cells.some_of (List.getElem?_eq_getElem hl)
 have hc := h.cells
 rw [ha] at hc
 refine ⟨a, ha, ?_⟩
 rw [← e]
 exact At.sub hc _ _
theorem at_rows {w : World} {a : Addr} {n : Nat} (g : Nat → List Value) (hg : ∀ i, (g i).length = n) : ∀ m : Nat, (∀ i, i < m → At w (a.add (i * n)) (g i)) → At w a ((List.range m).flatMap g)
 | 0, _ => fun j v hj => by simp at hj
 | m + 1, h => by
  rw [List.range_succ, List.flatMap_append]
  refine At.app (at_rows g hg m fun i hi => h i (by omega)) ?_
  rw [flatMap_len g hg, List.length_range]
  simpa using h m (by omega)
theorem at_cells {w : World} {base n : Nat} {a : Addr} {cs : List Value} (h : w.cells? base a n = some cs) : At w a cs ∧ cs.length = n := by
 obtain ⟨_, hl, hc⟩ := World.cells?_some h
 refine ⟨fun j v hj => ?_, hl⟩
 have hj2 : j < n := by rw [← hl]; exact (List.getElem?_eq_some_iff.1 hj).1
 rw [hc j hj2]; exact hj
instance : Inhabited OpA := ⟨⟨0, 0, nilSl, []⟩⟩
section
variable {H : Type} {enc : TypeId × Value → H} {w : World} {base : Nat} {held : Bool}
set_option maxRecDepth 100000 in
theorem open_op {fuel : Nat} {cs : List Value} {x : DataW H × List MemPlace} (hl : cs.length = 3) (h : DataW.trod enc Try.prog w base (fun _ => true) held fuel 35 cs = some x) : ∃ o : OpA, cs = o.cells ∧ Bytes w o.sl o.bs := by
 obtain ⟨xs, n, _, _, _, hxl, hf⟩ := DataW.trod_struct Try.underlying35 h
 match cs, hl with
 | [c0, c1, c2], _ =>
  have f0 := hf 0 _ rfl
  have f1 := hf 1 _ rfl
  have f2 := hf 2 _ rfl
  rw [List.getElem?_eq_getElem (by rw [hxl]; decide)] at f0 f1 f2
  obtain ⟨n0, e0, _, w0⟩ := DataW.trod_int Try.underlying3 f0
  obtain ⟨n1, e1, _, w1⟩ := DataW.trod_int Try.underlying3 f1
  have k3 : Try.prog.cellsOf 3 = 1 := by kernel_rfl
  have k33 : Try.prog.cellsOf 33 = 1 := by kernel_rfl
  obtain ⟨s, e2, _, _, bs, hb⟩ := open_u8s Try.underlying33 Try.underlying5 (by kernel_rfl) f2
  have g0 : ([c0, c1, c2].drop 0).take (Try.prog.cellsOf 3) = _ := e0; clear e0
  have g1 : ([c0, c1, c2].drop 1).take (Try.prog.cellsOf 3) = _ := e1; clear e1
  have g2 : ([c0, c1, c2].drop 2).take (Try.prog.cellsOf 33) = _ := e2; clear e2
  rw [k3] at g0 g1
  rw [k33] at g2
  simp only [List.drop_zero, List.drop_succ_cons, List.take_succ_cons, List.take_zero, List.cons.injEq, and_true] at g0 g1 g2
  subst g0; subst g1; subst g2
  exact ⟨⟨n0, n1, s, bs⟩, rfl, hb⟩
theorem open_22 {fuel : Nat} {cs : List Value} {x : DataW H × List MemPlace} (h : DataW.trod enc Try.prog w base (fun _ => true) held fuel 22 cs = some x) : ∃ s : Sl, cs = [s.v] ∧ s.len ≤ s.cap ∧ s.cap ≤ maxLen ∧ ∃ l, OpsAt w s l := by
 have cO : Try.prog.cellsOf 35 = 3 := by kernel_rfl
 rcases open_slice Try.underlying22 h with ⟨rfl, _⟩ | ⟨a, len, cap, m, n, D, Pl, rfl, _, hl, hm, hmm, _, hx⟩
 ·exact ⟨nilSl, rfl, Nat.le_refl _, Nat.zero_le _, [], rfl, rfl, by simp⟩
 ·have hmc : m = cap := by simpa using hmm
  obtain ⟨f, hf⟩ := choose_fn (p := fun i (o : OpA) => At w (a.add (i * 3)) o.cells ∧ Bytes w o.sl o.bs) (q := fun i => i < len) (fun i hi => by
   obtain ⟨cs', h1, h2⟩ := hx i (by omega)
   rw [cO] at h1
   obtain ⟨h3, h4⟩ := at_cells h1
   obtain ⟨f, rfl, hk⟩ := open_op h4 h2
   exact ⟨f, h3, hk⟩)
  refine ⟨⟨some a, len, cap⟩, rfl, hl, hm, (List.range len).map f, by simp, ?_, ?_⟩
  ·have := at_rows (w := w) (a := a) (n := 3) (fun i => (f i).cells) (fun _ => rfl) len fun i hi => (hf i hi).1
   show At w a _
   rw [List.flatMap_map]
   exact this
  ·intro g hg
   obtain ⟨i, hi, rfl⟩ := List.mem_map.1 hg
   exact (hf i (List.mem_range.1 hi)).2
end
theorem own_far {w : World} {base : Nat} {e : TypeId} {size : Nat} {s : Sl} {xs : List Value} (h : Own w base e size s xs) : ∀ a, s.a = some a → base ≤ a.block ∧ a.block < w.heap.size := by
 intro a ha
 rcases h.2 with ⟨h5, _⟩ | ⟨g, c, cur, h5, h6, h7, _⟩
 ·obtain ⟨xa, xl, xc⟩ := s
  simp only [Value.slice.injEq] at h5
  simp only at ha
  rw [h5.1] at ha; cases ha
 ·obtain ⟨xa, xl, xc⟩ := s
  simp only [Value.slice.injEq] at h5
  simp only at ha
  rw [h5.1] at ha
  cases ha
  exact ⟨h6, (Array.getElem?_eq_some_iff.1 h7).1⟩
def Fits (l : List OpA) : Prop := l.length ≤ 300 ∧ ∀ o ∈ l, o.bs.length ≤ 100
theorem fits_ok (w : World) (p : Sl) (l : List OpA) (h : OpsAt w p l) (hm : p.len ≤ maxLen) : Calls Try.prog 5 #[p.v] w (Ret r5 fun x w' => (x = true → Fits l) ∧ Ext w w') := by
 apply s5_calls
 have hpl := h.len
 simp only [maxLen] at hm
 refine ⟨fun _ => ⟨fun h => absurd h (by decide), Ext.refl _⟩, fun hf => ?_⟩
 have hf := of_decide_eq_false hf
 refine ⟨fun st w' => ∃ k : Nat, k ≤ l.length ∧ st = (k : Int) ∧ Ext w w' ∧ ∀ o ∈ l.take k, o.bs.length ≤ 100, fun st _ => l.length - st.toNat, ⟨0, Nat.zero_le _, rfl, Ext.refl _, by simp⟩, ?_⟩
 rintro st w3 ⟨k, hk, rfl, hx, hall⟩
 refine ⟨fun hlt => ?_, fun hge => ?_⟩
 ·have hkl : k < l.length := by have := of_decide_eq_true hlt; omega
  obtain ⟨a, ha, hat⟩ := (h.ext hx).get hkl
  refine ⟨a, _, ha, by omega, by omega, rfl, l[k].cells, rfl, by rw [Int.toNat_natCast]; exact hat, rfl, opCells_one _, fun b4 w4 hb4 hw4 => ?_⟩
  have hx4 : Ext w3 w4 := Ext.new hw4
  have hB : Blk w4 b4 35 l[k].cells := Blk.new hb4 hw4
  have hbl := (h.ok _ (List.getElem_mem hkl)).1
  refine ⟨l[k].sl, by rw [Go.Lift.add_plain]; exact hB.cell rfl, fun _ => ⟨fun h => absurd h (by decide), hx.trans hx4⟩, fun hs => ?_⟩
  have hs := of_decide_eq_false hs
  rw [w64_eq (by omega) (by omega)]
  refine ⟨⟨k + 1, by omega, by omega, hx.trans hx4, ?_⟩, by simp only; omega⟩
  intro o ho
  rw [List.take_succ_eq_append_getElem hkl, List.mem_append] at ho
  rcases ho with ho | ho
  ·exact hall o ho
  ·rw [List.mem_singleton.1 ho]; omega
 ·have hge : k = l.length := by have := of_decide_eq_false hge; omega
  subst hge
  rw [List.take_length] at hall
  exact ⟨fun _ => ⟨by omega, hall⟩, hx⟩

/-! ### a pool of two frames -/
theorem footExt {w0 w w' : World} {pb g r : Nat} (hf : Fr (Foot pb g r) w w') (hx : Ext w0 w) (h1 : w0.heap.size ≤ pb) (h2 : w0.heap.size ≤ g) (h3 : w0.heap.size ≤ r) : Ext w0 w' :=
 hf.ext hx fun k _ hk => by rcases hk with e | e | e <;> omega
/-- a page of one letter is put -/
theorem put_lit {w0 w w12 w13 : World} {pb g r b : Nat} {P : Pl} {n : Int} {c : UInt8} {K : Int → World → Prop} (hx : Ext w0 w) (h : PAt w (fun k => w0.heap.size ≤ k) pb g r P) (hb : b = w.heap.size) (hw : w12 = w.alloc (.cells (List.toArray [Value.int .u8 (c.toNat : Int)]) 5)) (hw13 : w13 = w12.freeze ⟨b, 1, none⟩ 1)
  (hk : ∀ w', PAt w' (fun k => w0.heap.size ≤ k) pb g r (P.put n [c]).1 → Ext w0 w' → K (P.put n [c]).2 w') : cR Try.prog 10 r10 #[.pointer (pp pb), .int .i64 n, Sl.v ⟨some ⟨b, 0, none⟩, 1, 1⟩] w13 K := by
 have hx12 : Ext w w12 := Ext.new hw
 have hx13 : Ext w w13 := by rw [hw13]; exact Ext.freeze hx12 1 (by rw [hb]; exact Nat.le_refl _)
 have hat : At w12 ⟨b, 0, none⟩ (u8s [c]) := At.new hb hw
 have hbt : Bytes w13 ⟨some ⟨b, 0, none⟩, 1, 1⟩ [c] := ⟨rfl, by rw [hw13]; exact At.freeze hat _ _⟩
 obtain ⟨⟨hpb, hgb, hrb⟩, l1, l2, l3⟩ := h.lt
 have hpb : w0.heap.size ≤ pb := hpb
 have hgb : w0.heap.size ≤ g := hgb
 have hrb : w0.heap.size ≤ r := hrb
 refine cR_of (put_ok w13 _ pb g r P (h.ext hx13) n _ [c] hbt (by simp) fun a ha hft => ?_) fun x w' hh => ?_
 ·cases ha
  rcases hft with e | e | e <;> simp only at e <;> omega
 ·obtain ⟨rfl, hp, hf⟩ := hh
  have h13 := (hx.trans hx13).size
  exact hk w' (hp.mono fun k _ hk => hk.elim (fun h => h) fun h => by omega) (footExt hf (hx.trans hx13) hpb hgb hrb)
theorem lives_ok (w : World) : Calls Try.prog 4 #[] w (Ret r4 fun x w' => x = true ∧ Ext w w') := by
 apply s4_calls
 refine cR_of (new_ok w 2 (by decide) (by decide)) fun x w2 hh => ?_
 obtain ⟨pb, g, r, rfl, h2, hx2⟩ := hh
 obtain ⟨⟨hpb, hgb, hrb⟩, _⟩ := h2.lt
 refine jn_of fun k1 hk1 => ⟨fun h => absurd h (by simp), fun _ => ?_⟩
 rw [hk1]
 refine jn_of fun k2 hk2 => ⟨fun h => absurd h (by simp), fun _ => ?_⟩
 intro b3 w3 hb3 hw3
 refine ⟨b3, 0, _, 5, (0, 0), rfl, Blk.new hb3 hw3, fun w4 hw4 => ?_⟩
 refine put_lit (c := 97) hx2 h2 hb3 hw3 hw4 fun w5 h5 hx5 => ?_
 rw [hk2]
 refine jn_of fun k3 hk3 => ⟨fun h => absurd h (by decide), fun _ => ?_⟩
 intro b6 w6 hb6 hw6
 refine ⟨b6, 0, _, 5, (0, 0), rfl, Blk.new hb6 hw6, fun w7 hw7 => ?_⟩
 refine put_lit (c := 98) hx5 h5 hb6 hw6 hw7 fun w8 h8 hx8 => ?_
 rw [hk3]
 refine jn_of fun k4 hk4 => ⟨fun h => absurd h (by decide), fun _ => ?_⟩
 intro b9 w9 hb9 hw9
 refine ⟨b9, 0, _, 5, (0, 0), rfl, Blk.new hb9 hw9, fun w10 hw10 => ?_⟩
 refine put_lit (c := 99) hx8 h8 hb9 hw9 hw10 fun w11 h11 hx11 => ?_
 rw [hk4]
 refine ⟨fun h => absurd h (by decide), fun _ => ?_⟩
 refine cR_of (get_ok w11 _ pb g r _ h11 (by decide) 2) fun x w12 hh => ?_
 obtain ⟨he, hbt, h12, hf12, hfar⟩ := hh
 refine cR_of (get_ok w12 _ pb g r _ h12 (by decide) 1) fun x2 w13 hh => ?_
 obtain ⟨he2, _, h13, hf13, _⟩ := hh
 have hx12 := footExt hf12 hx11 hpb hgb hrb
 have hx13 := footExt hf13 hx12 hpb hgb hrb
 refine jn_of fun k5 hk5 => ?_
 rw [he]
 refine ⟨fun _ => ?_, fun h => absurd h (by decide)⟩
 have hbt13 := hf13.bytes hfar hbt
 refine ⟨_, hbt13.1, hbt13.2, ?_⟩
 rw [hk5]
 refine jn_of fun k6 hk6 => ⟨fun _ => ?_, fun h => absurd h (by decide)⟩
 rw [hk6, he2]
 exact ⟨by decide, hx13⟩
end Go.Proofs.Ytijopkmclcbehaa
end
section
/- The typed readings of the functions, and that the program meets each: written by gen.py (a program of this session). -/
namespace Go.Proofs.Ytijopkmclcbehaa
open Go.Lift
set_option maxRecDepth 100000 in
set_option maxHeartbeats 4000000 in
theorem s3_calls (K : Bool → World → Prop) (p0 : Int) (p1 : Sl) (w : World) (h : s3 K p0 p1 w) :
  Calls Try.prog 3 #[.int .i64 p0, Sl.v p1] w (Ret r3 K) := by
 unfold s3 at h
 refine calls_of_CW (n := 189) Try.func3 rfl rfl rfl ?_
 refine CW.seq ?_
 refine CW.region ?_
 refine RL.opS trivial rfl (OpW.assign (v := .bool false) rfl ?_)
 refine RL.nil ?_
 refine CW.seq ?_
 refine CW.seq ?_
 refine CW.region ?_
 refine RL.opS trivial rfl (OpW.callR (al := []) Try.func4 fb_4 fn_4 rfl h (fun x1 w2 h => ?_))
 refine RL.opS trivial rfl (OpW.not rfl ?_)
 refine RL.opS trivial rfl (OpW.move (v := .bool (!x1)) rfl ?_)
 refine jn_elim h ?_; clear h; intro k228 hk229 h
 refine RL.joinAt (A := Bool) 4 (fun s7 ρ => ρ 34 = .bool s7 ∧ ρ 0 = .int .i64 p0 ∧ ρ 1 = Sl.v p1) k228 ?_ ?_
 ·rintro s7 ρ w8 ⟨e9, e10, e11⟩ h
  subst hk229
  dsimp only [List.drop]
  refine RL.nil ?_
  obtain ⟨ha, hc⟩ := h
  refine CW.cond (b := s7) e9 (fun hb12 => ?_) (fun hb12 => ?_)
  ·have h := ha hb12; clear ha hc
   refine CW.seq ?_
   refine CW.region ?_
   refine RL.opS trivial rfl (OpW.callR (al := []) Try.func4 fb_4 fn_4 rfl h (fun x13 w14 h => ?_))
   refine RL.opS trivial rfl (OpW.assign (v := .bool x13) rfl ?_)
   refine RL.nil ?_
   refine CW.ret ?_
   exact ret_intro (res1 rfl rfl) ⟨x13, rfl, h⟩
  ·have h := hc hb12; clear ha hc
   refine CW.skip ?_
   refine CW.seq ?_
   refine CW.region ?_
   refine RL.opS trivial rfl (OpW.move (v := .int .i64 p0) e10 ?_)
   refine RL.opS trivial rfl (OpW.callR (al := [.int .i64 p0]) Try.func6 fb_6 fn_6 rfl h (fun x15 w16 h => ?_))
   refine RL.opS trivial rfl (OpW.move (v := .tuple #[.pointer x15.1, .int .i64 x15.2]) rfl ?_)
   refine RL.opS trivial rfl (OpW.extract (v := .pointer x15.1) rfl rfl ?_)
   refine RL.opS trivial rfl (OpW.extract (v := .int .i64 x15.2) rfl rfl ?_)
   refine RL.opS trivial rfl (OpW.assign (v := .pointer x15.1) rfl ?_)
   refine RL.opS trivial rfl (OpW.assign (v := .int .i64 x15.2) rfl ?_)
   refine RL.nil ?_
   refine CW.seq ?_
   refine CW.seq ?_
   refine CW.region ?_
   refine RL.opS trivial rfl (OpW.move (v := .int .i64 p0) e10 ?_)
   refine RL.opS trivial rfl (OpW.bin (k := .i64) (a := p0) (b := 1) (v := .bool (decide (p0 < 1))) rfl rfl rfl ?_)
   refine RL.opS trivial rfl (OpW.move (v := .bool (decide (p0 < 1))) rfl ?_)
   refine jn_elim h ?_; clear h; intro k226 hk227 h
   refine RL.joinAt (A := Bool) 3 (fun s19 ρ => ρ 46 = .bool s19 ∧ ρ 0 = .int .i64 p0 ∧ ρ 1 = Sl.v p1 ∧ ρ 5 = .pointer x15.1 ∧ ρ 6 = .int .i64 x15.2) k226 ?_ ?_
   ·rintro s19 ρ w20 ⟨e21, e22, e23, e24, e25⟩ h
    subst hk227
    dsimp only [List.drop]
    refine RL.nil ?_
    obtain ⟨ha, hc⟩ := h
    refine CW.cond (b := s19) e21 (fun hb26 => ?_) (fun hb26 => ?_)
    ·have h := ha hb26; clear ha hc
     refine CW.seq ?_
     refine CW.region ?_
     refine RL.opS trivial rfl (OpW.move (v := .pointer x15.1) e24 ?_)
     refine RL.opS trivial rfl (OpW.ptrNil (b := x15.1.isNone) (p := x15.1) ptr_25 rfl rfl rfl ?_)
     refine RL.opS trivial rfl (OpW.move (v := .bool (x15.1.isNone)) rfl ?_)
     refine jn_elim h ?_; clear h; intro k32 hk33 h
     refine RL.joinAt (A := Bool) 3 (fun s29 ρ => ρ 52 = .bool s29) k32 ?_ ?_
     ·rintro s29 ρ w30 e31 h
      subst hk33
      dsimp only [List.drop]
      refine RL.opS trivial rfl (OpW.assign (v := .bool s29) e31 ?_)
      refine RL.nil ?_
      refine CW.ret ?_
      exact ret_intro (res1 rfl rfl) ⟨s29, rfl, h⟩
     ·clear hk33
      dsimp only [List.take]
      obtain ⟨ha, hc⟩ := h
      rcases Bool.eq_false_or_eq_true (x15.1.isNone) with hb27 | hb27
      ·have h := ha hb27; clear ha hc
       refine RL.opS (wanted_of rfl rfl hb27) rfl (OpW.move (v := .int .i64 x15.2) e25 ?_)
       refine RL.opS (wanted_of rfl rfl hb27) rfl (OpW.bin (k := .i64) (a := x15.2) (b := 1) (v := .bool (decide (x15.2 = 1))) rfl rfl rfl ?_)
       refine RL.opS trivial rfl (OpW.pick (b := true) (v := .bool (decide (x15.2 = 1))) (congrArg Value.bool hb27) rfl ?_)
       refine RL.nil ?_
       exact ⟨(decide (x15.2 = 1)), rfl, h⟩
      ·have h := hc hb27; clear ha hc
       refine RL.skipS (notWanted_of rfl rfl hb27) rfl ?_
       refine RL.skipS (notWanted_of rfl rfl hb27) rfl ?_
       refine RL.opS trivial rfl (OpW.pick (b := false) (v := .bool false) (congrArg Value.bool hb27) rfl ?_)
       refine RL.nil ?_
       exact ⟨false, rfl, h⟩
    ·have h := hc hb26; clear ha hc
     refine CW.skip ?_
     refine CW.seq ?_
     refine CW.region ?_
     refine RL.opS trivial rfl (OpW.move (v := .int .i64 p0) e22 ?_)
     refine RL.opS trivial rfl (OpW.callR (al := [.int .i64 p0]) Try.func7 fb_7 fn_7 rfl h (fun x34 w35 h => ?_))
     obtain ⟨hl_b36, ho_b36, h⟩ := h
     obtain ⟨b36, hb36_⟩ : ∃ b_, b_ = w35.heap.size := ⟨_, rfl⟩
     obtain ⟨w37, hw37_⟩ : ∃ w_, w_ = w35.alloc (.cells (List.toArray x34) 31) := ⟨_, rfl⟩
     have h := h b36 w37 hb36_ hw37_
     refine RL.opS trivial rfl (OpW.allocZ (b := b36) zero_31 hb36_ ?_)
     refine RL.opN trivial (OpW.storeF (zs := [Value.slice none 0 0, Value.int .i64 0, Value.int .i64 0, Value.int .i64 0]) (cs := x34) size_31 rfl rfl hl_b36 (by decide) ho_b36 hb36_ hw37_ ?_)
     refine RL.nil ?_
     refine CW.seq ?_
     refine CW.seq ?_
     refine CW.region ?_
     refine RL.opS trivial rfl (OpW.move (v := Sl.v p1) e23 ?_)
     refine RL.opS trivial rfl (OpW.len (s := p1) slice_22 rfl ?_)
     refine RL.opS trivial rfl (OpW.move (v := .int .i64 0) rfl ?_)
     refine RL.nil ?_
     refine CW.block ?_
     obtain ⟨I224, mu225, hI, hs⟩ := h
     refine CW.loop (σ := Int) (fun s38 ρ => ρ 57 = .int .i64 s38 ∧ ρ 5 = .pointer x15.1 ∧ ρ 7 = .pointer (some ⟨b36, 0, none⟩) ∧ ρ 55 = Sl.v p1 ∧ ρ 56 = .int .i64 (p1.len : Int)) I224 mu225 0 ⟨rfl, e24, rfl, rfl, rfl⟩ hI ?_
     rintro s38 ρ w39 ⟨e41, e42, e43, e44, e45⟩ hI
     have h := hs s38 w39 hI
     clear hs hI
     refine CW.seq ?_
     refine CW.region ?_
     refine RL.opS trivial rfl (OpW.bin (k := .i64) (a := s38) (b := (p1.len : Int)) (v := .bool (decide (s38 < (p1.len : Int)))) e41 e45 rfl ?_)
     refine RL.nil ?_
     refine CW.seq ?_
     obtain ⟨ha, hc⟩ := h
     refine CW.cond (b := (decide (s38 < (p1.len : Int)))) rfl (fun hb46 => ?_) (fun hb46 => ?_)
     ·have h := ha hb46; clear ha hc
      refine CW.skip ?_
      refine CW.seq ?_
      refine CW.block ?_
      refine CW.seq ?_
      refine CW.region ?_
      obtain ⟨a47_, a47, h1, h2, h3, h4, h⟩ := h
      refine RL.opS trivial rfl (OpW.indexE (a' := a47) slice_22 e44 e41 h1 h2 h3 h4 ?_)
      obtain ⟨x49, h1, h2, h⟩ := h
      refine RL.opS trivial rfl (OpW.loadA agg_35 rfl h1 h2 ?_)
      obtain ⟨hl_b50, ho_b50, h⟩ := h
      obtain ⟨b50, hb50_⟩ : ∃ b_, b_ = w39.heap.size := ⟨_, rfl⟩
      obtain ⟨w51, hw51_⟩ : ∃ w_, w_ = w39.alloc (.cells (List.toArray x49) 35) := ⟨_, rfl⟩
      have h := h b50 w51 hb50_ hw51_
      refine RL.opS trivial rfl (OpW.allocZ (b := b50) zero_35 hb50_ ?_)
      refine RL.opN trivial (OpW.storeF (zs := [Value.int .i64 0, Value.int .i64 0, Value.slice none 0 0]) (cs := x49) size_35 rfl rfl hl_b50 (by decide) ho_b50 hb50_ hw51_ ?_)
      refine RL.nil ?_
      refine CW.seq ?_
      refine CW.region ?_
      refine RL.opS trivial rfl (OpW.assign (v := .bool true) rfl ?_)
      refine RL.nil ?_
      refine jn_elim h ?_; clear h; intro k222 hk223 h
      refine CW.seqJ (A := Bool) (fun s142 ρ => ρ 10 = .bool s142 ∧ ρ 5 = .pointer x15.1 ∧ ρ 7 = .pointer (some ⟨b36, 0, none⟩) ∧ ρ 55 = Sl.v p1 ∧ ρ 56 = .int .i64 (p1.len : Int) ∧ ρ 57 = .int .i64 s38) k222 ?_ ?_
      ·rintro s142 ρ w143 ⟨e144, e145, e146, e147, e148, e149⟩ h
       subst hk223
       refine CW.seq ?_
       refine CW.region ?_
       refine RL.opS trivial rfl (OpW.move (v := .pointer x15.1) e145 ?_)
       refine RL.opS trivial rfl (OpW.callR (al := [.pointer x15.1]) Try.func14 fb_14 fn_14 rfl h (fun x150 w151 h => ?_))
       refine RL.opS trivial rfl (OpW.assign (v := Sl.v x150) rfl ?_)
       refine RL.nil ?_
       refine CW.seq ?_
       refine CW.region ?_
       refine RL.opS trivial rfl (OpW.move (v := .pointer x15.1) e145 ?_)
       refine RL.opS trivial rfl (OpW.callR (al := [.pointer x15.1]) Try.func15 fb_15 fn_15 rfl h (fun x152 w153 h => ?_))
       refine RL.opS trivial rfl (OpW.move (v := .tuple #[.int .i64 x152.1, .int .i64 x152.2]) rfl ?_)
       refine RL.opS trivial rfl (OpW.extract (v := .int .i64 x152.1) rfl rfl ?_)
       refine RL.opS trivial rfl (OpW.extract (v := .int .i64 x152.2) rfl rfl ?_)
       refine RL.opS trivial rfl (OpW.assign (v := .int .i64 x152.1) rfl ?_)
       refine RL.opS trivial rfl (OpW.assign (v := .int .i64 x152.2) rfl ?_)
       refine RL.nil ?_
       refine CW.seq ?_
       refine CW.seq ?_
       refine CW.region ?_
       refine RL.opS trivial rfl (OpW.move (v := .bool s142) e144 ?_)
       refine RL.opS trivial rfl (OpW.not rfl ?_)
       refine RL.opS trivial rfl (OpW.move (v := .bool (!s142)) rfl ?_)
       refine jn_elim h ?_; clear h; intro k220 hk221 h
       refine RL.joinAt (A := Bool) 7 (fun s157 ρ => ρ 159 = .bool s157 ∧ ρ 5 = .pointer x15.1 ∧ ρ 7 = .pointer (some ⟨b36, 0, none⟩) ∧ ρ 23 = Sl.v x150 ∧ ρ 24 = .int .i64 x152.1 ∧ ρ 25 = .int .i64 x152.2 ∧ ρ 55 = Sl.v p1 ∧ ρ 56 = .int .i64 (p1.len : Int) ∧ ρ 57 = .int .i64 s38) k220 ?_ ?_
       ·rintro s157 ρ w158 ⟨e159, e160, e161, e162, e163, e164, e165, e166, e167⟩ h
        subst hk221
        dsimp only [List.drop]
        refine RL.opS trivial rfl (OpW.move (v := .bool s157) e159 ?_)
        refine jn_elim h ?_; clear h; intro k218 hk219 h
        refine RL.joinAt (A := Bool) 5 (fun s171 ρ => ρ 165 = .bool s171 ∧ ρ 5 = .pointer x15.1 ∧ ρ 7 = .pointer (some ⟨b36, 0, none⟩) ∧ ρ 23 = Sl.v x150 ∧ ρ 25 = .int .i64 x152.2 ∧ ρ 55 = Sl.v p1 ∧ ρ 56 = .int .i64 (p1.len : Int) ∧ ρ 57 = .int .i64 s38) k218 ?_ ?_
        ·rintro s171 ρ w172 ⟨e173, e174, e175, e176, e177, e178, e179, e180⟩ h
         subst hk219
         dsimp only [List.drop]
         refine RL.opS trivial rfl (OpW.move (v := .bool s171) e173 ?_)
         refine jn_elim h ?_; clear h; intro k216 hk217 h
         refine RL.joinAt (A := Bool) 5 (fun s184 ρ => ρ 171 = .bool s184 ∧ ρ 5 = .pointer x15.1 ∧ ρ 7 = .pointer (some ⟨b36, 0, none⟩) ∧ ρ 23 = Sl.v x150 ∧ ρ 55 = Sl.v p1 ∧ ρ 56 = .int .i64 (p1.len : Int) ∧ ρ 57 = .int .i64 s38) k216 ?_ ?_
         ·rintro s184 ρ w185 ⟨e186, e187, e188, e189, e190, e191, e192⟩ h
          subst hk217
          dsimp only [List.drop]
          refine RL.nil ?_
          obtain ⟨ha, hc⟩ := h
          refine CW.cond (b := s184) e186 (fun hb193 => ?_) (fun hb193 => ?_)
          ·have h := ha hb193; clear ha hc
           refine CW.seq ?_
           refine CW.region ?_
           refine RL.opS trivial rfl (OpW.assign (v := .bool false) rfl ?_)
           refine RL.nil ?_
           refine CW.ret ?_
           exact ret_intro (res1 rfl rfl) ⟨false, rfl, h⟩
          ·have h := hc hb193; clear ha hc
           refine CW.skip ?_
           refine CW.seq ?_
           refine CW.region ?_
           refine RL.opS trivial rfl (OpW.move (v := Sl.v x150) e189 ?_)
           refine RL.opS trivial rfl (OpW.len (s := x150) slice_47 rfl ?_)
           refine RL.opS trivial rfl (OpW.move (v := .int .i64 0) rfl ?_)
           refine RL.nil ?_
           refine CW.block ?_
           obtain ⟨I214, mu215, hI, hs⟩ := h
           refine CW.loop (σ := Int) (fun s194 ρ => ρ 174 = .int .i64 s194 ∧ ρ 5 = .pointer x15.1 ∧ ρ 7 = .pointer (some ⟨b36, 0, none⟩) ∧ ρ 55 = Sl.v p1 ∧ ρ 56 = .int .i64 (p1.len : Int) ∧ ρ 57 = .int .i64 s38 ∧ ρ 172 = Sl.v x150 ∧ ρ 173 = .int .i64 (x150.len : Int)) I214 mu215 0 ⟨rfl, e187, e188, e190, e191, e192, rfl, rfl⟩ hI ?_
           rintro s194 ρ w195 ⟨e197, e198, e199, e200, e201, e202, e203, e204⟩ hI
           have h := hs s194 w195 hI
           clear hs hI
           refine CW.seq ?_
           refine CW.region ?_
           refine RL.opS trivial rfl (OpW.bin (k := .i64) (a := s194) (b := (x150.len : Int)) (v := .bool (decide (s194 < (x150.len : Int)))) e197 e204 rfl ?_)
           refine RL.nil ?_
           refine CW.seq ?_
           obtain ⟨ha, hc⟩ := h
           refine CW.cond (b := (decide (s194 < (x150.len : Int)))) rfl (fun hb205 => ?_) (fun hb205 => ?_)
           ·have h := ha hb205; clear ha hc
            refine CW.skip ?_
            refine CW.seq ?_
            refine CW.block ?_
            refine CW.seq ?_
            refine CW.region ?_
            refine RL.opS trivial rfl (OpW.move (v := .int .i64 s194) e197 ?_)
            obtain ⟨a206_, a206, h1, h2, h3, h4, h⟩ := h
            refine RL.opS trivial rfl (OpW.indexE (a' := a206) slice_47 e203 e197 h1 h2 h3 h4 ?_)
            obtain ⟨x208, h1, h⟩ := h
            refine RL.opS trivial rfl (OpW.load1 (v := .int .i64 x208) one_3 rfl h1 ?_)
            refine RL.opS trivial rfl (OpW.assign (v := .int .i64 s194) rfl ?_)
            refine RL.opS trivial rfl (OpW.assign (v := .int .i64 x208) rfl ?_)
            refine RL.nil ?_
            refine CW.seq ?_
            refine CW.region ?_
            refine RL.opS trivial rfl (OpW.move (v := .int .i64 x208) rfl ?_)
            refine RL.opS trivial rfl (OpW.fieldAddr (off := 0) field_31_0 e199 ?_)
            obtain ⟨x209, h1, h⟩ := h
            refine RL.opS trivial rfl (OpW.load1 (v := Sl.v x209) one_29 rfl h1 ?_)
            refine RL.opS trivial rfl (OpW.move (v := .int .i64 s194) rfl ?_)
            obtain ⟨a210_, a210, h1, h2, h3, h4, h⟩ := h
            refine RL.opS trivial rfl (OpW.indexE (a' := a210) slice_29 rfl rfl h1 h2 h3 h4 ?_)
            refine RL.opS trivial rfl (OpW.fieldAddr (off := 0) field_52_0 rfl ?_)
            obtain ⟨x212, h1, h⟩ := h
            refine RL.opS trivial rfl (OpW.load1 (v := .int .i64 x212) one_3 rfl h1 ?_)
            refine RL.opS trivial rfl (OpW.bin (k := .i64) (a := x208) (b := x212) (v := .bool (!decide (x208 = x212))) rfl rfl rfl ?_)
            refine RL.nil ?_
            obtain ⟨ha, hc⟩ := h
            refine CW.cond (b := (!decide (x208 = x212))) rfl (fun hb213 => ?_) (fun hb213 => ?_)
            ·have h := ha hb213; clear ha hc
             refine CW.seq ?_
             refine CW.region ?_
             refine RL.opS trivial rfl (OpW.assign (v := .bool false) rfl ?_)
             refine RL.nil ?_
             refine CW.ret ?_
             exact ret_intro (res1 rfl rfl) ⟨false, rfl, h⟩
            ·have h := hc hb213; clear ha hc
             refine CW.skip ?_
             refine CW.region ?_
             refine RL.opS trivial rfl (OpW.bin (k := .i64) (a := s194) (b := 1) (v := .int .i64 (IntKind.i64.wrap (s194 + 1))) e197 rfl rfl ?_)
             refine RL.opS trivial rfl (OpW.move (v := .int .i64 (IntKind.i64.wrap (s194 + 1))) rfl ?_)
             refine RL.nil ?_
             exact ⟨(IntKind.i64.wrap (s194 + 1)), ⟨rfl, e198, e199, e200, e201, e202, e203, e204⟩, h⟩
           ·have h := hc hb205; clear ha hc
            refine CW.exit ?_
            refine CW.region ?_
            refine RL.opS trivial rfl (OpW.bin (k := .i64) (a := s38) (b := 1) (v := .int .i64 (IntKind.i64.wrap (s38 + 1))) e202 rfl rfl ?_)
            refine RL.opS trivial rfl (OpW.move (v := .int .i64 (IntKind.i64.wrap (s38 + 1))) rfl ?_)
            refine RL.nil ?_
            exact ⟨(IntKind.i64.wrap (s38 + 1)), ⟨rfl, e198, e199, e200, e201⟩, h⟩
         ·clear hk217
          dsimp only [List.take]
          obtain ⟨ha, hc⟩ := h
          rcases Bool.eq_false_or_eq_true s171 with hb181 | hb181
          ·have h := ha hb181; clear ha hc
           refine RL.skipS (notWanted_of rfl rfl hb181) rfl ?_
           refine RL.skipS (notWanted_of rfl rfl hb181) rfl ?_
           refine RL.skipS (notWanted_of rfl rfl hb181) rfl ?_
           refine RL.skipS (notWanted_of rfl rfl hb181) rfl ?_
           refine RL.opS trivial rfl (OpW.pick (b := true) (v := .bool true) (congrArg Value.bool hb181) rfl ?_)
           refine RL.nil ?_
           exact ⟨true, ⟨rfl, e174, e175, e176, e178, e179, e180⟩, h⟩
          ·have h := hc hb181; clear ha hc
           refine RL.opS (wanted_of rfl rfl hb181) rfl (OpW.move (v := .int .i64 x152.2) e177 ?_)
           refine RL.opS (wanted_of rfl rfl hb181) rfl (OpW.fieldAddr field_31_3 e175 ?_)
           obtain ⟨x183, h1, h⟩ := h
           refine RL.opS (wanted_of rfl rfl hb181) rfl (OpW.load1 (v := .int .i64 x183) one_3 rfl h1 ?_)
           refine RL.opS (wanted_of rfl rfl hb181) rfl (OpW.bin (k := .i64) (a := x152.2) (b := x183) (v := .bool (!decide (x152.2 = x183))) rfl rfl rfl ?_)
           refine RL.opS trivial rfl (OpW.pick (b := false) (v := .bool (!decide (x152.2 = x183))) (congrArg Value.bool hb181) rfl ?_)
           refine RL.nil ?_
           exact ⟨(!decide (x152.2 = x183)), ⟨rfl, e174, e175, e176, e178, e179, e180⟩, h⟩
        ·clear hk219
         dsimp only [List.take]
         obtain ⟨ha, hc⟩ := h
         rcases Bool.eq_false_or_eq_true s157 with hb168 | hb168
         ·have h := ha hb168; clear ha hc
          refine RL.skipS (notWanted_of rfl rfl hb168) rfl ?_
          refine RL.skipS (notWanted_of rfl rfl hb168) rfl ?_
          refine RL.skipS (notWanted_of rfl rfl hb168) rfl ?_
          refine RL.skipS (notWanted_of rfl rfl hb168) rfl ?_
          refine RL.opS trivial rfl (OpW.pick (b := true) (v := .bool true) (congrArg Value.bool hb168) rfl ?_)
          refine RL.nil ?_
          exact ⟨true, ⟨rfl, e160, e161, e162, e164, e165, e166, e167⟩, h⟩
         ·have h := hc hb168; clear ha hc
          refine RL.opS (wanted_of rfl rfl hb168) rfl (OpW.move (v := .int .i64 x152.1) e163 ?_)
          refine RL.opS (wanted_of rfl rfl hb168) rfl (OpW.fieldAddr field_31_2 e161 ?_)
          obtain ⟨x170, h1, h⟩ := h
          refine RL.opS (wanted_of rfl rfl hb168) rfl (OpW.load1 (v := .int .i64 x170) one_3 rfl h1 ?_)
          refine RL.opS (wanted_of rfl rfl hb168) rfl (OpW.bin (k := .i64) (a := x152.1) (b := x170) (v := .bool (!decide (x152.1 = x170))) rfl rfl rfl ?_)
          refine RL.opS trivial rfl (OpW.pick (b := false) (v := .bool (!decide (x152.1 = x170))) (congrArg Value.bool hb168) rfl ?_)
          refine RL.nil ?_
          exact ⟨(!decide (x152.1 = x170)), ⟨rfl, e160, e161, e162, e164, e165, e166, e167⟩, h⟩
       ·clear hk221
        dsimp only [List.take]
        obtain ⟨ha, hc⟩ := h
        rcases Bool.eq_false_or_eq_true (!s142) with hb154 | hb154
        ·have h := ha hb154; clear ha hc
         refine RL.skipS (notWanted_of rfl rfl hb154) rfl ?_
         refine RL.skipS (notWanted_of rfl rfl hb154) rfl ?_
         refine RL.skipS (notWanted_of rfl rfl hb154) rfl ?_
         refine RL.skipS (notWanted_of rfl rfl hb154) rfl ?_
         refine RL.skipS (notWanted_of rfl rfl hb154) rfl ?_
         refine RL.skipS (notWanted_of rfl rfl hb154) rfl ?_
         refine RL.opS trivial rfl (OpW.pick (b := true) (v := .bool true) (congrArg Value.bool hb154) rfl ?_)
         refine RL.nil ?_
         exact ⟨true, ⟨rfl, e145, e146, rfl, rfl, rfl, e147, e148, e149⟩, h⟩
        ·have h := hc hb154; clear ha hc
         refine RL.opS (wanted_of rfl rfl hb154) rfl (OpW.move (v := Sl.v x150) rfl ?_)
         refine RL.opS (wanted_of rfl rfl hb154) rfl (OpW.len (s := x150) slice_47 rfl ?_)
         refine RL.opS (wanted_of rfl rfl hb154) rfl (OpW.fieldAddr (off := 0) field_31_0 e146 ?_)
         obtain ⟨x156, h1, h⟩ := h
         refine RL.opS (wanted_of rfl rfl hb154) rfl (OpW.load1 (v := Sl.v x156) one_29 rfl h1 ?_)
         refine RL.opS (wanted_of rfl rfl hb154) rfl (OpW.len (s := x156) slice_29 rfl ?_)
         refine RL.opS (wanted_of rfl rfl hb154) rfl (OpW.bin (k := .i64) (a := (x150.len : Int)) (b := (x156.len : Int)) (v := .bool (!decide ((x150.len : Int) = (x156.len : Int)))) rfl rfl rfl ?_)
         refine RL.opS trivial rfl (OpW.pick (b := false) (v := .bool (!decide ((x150.len : Int) = (x156.len : Int)))) (congrArg Value.bool hb154) rfl ?_)
         refine RL.nil ?_
         exact ⟨(!decide ((x150.len : Int) = (x156.len : Int))), ⟨rfl, e145, e146, rfl, rfl, rfl, e147, e148, e149⟩, h⟩
      ·clear hk223
       refine CW.seq ?_
       refine CW.region ?_
       refine RL.opS trivial rfl (OpW.fieldAddr (off := 0) field_35_0 rfl ?_)
       obtain ⟨x53, h1, h⟩ := h
       refine RL.opS trivial rfl (OpW.load1 (v := .int .i64 x53) one_3 rfl h1 ?_)
       refine RL.opS trivial rfl (OpW.convInt (a := x53) int_3 int_36 rfl ?_)
       refine RL.opS trivial rfl (OpW.quo (a := (IntKind.u64.wrap x53)) (b := 3) (v := .int .u64 (Int.tmod (IntKind.u64.wrap x53) 3)) rfl rfl (by decide) rfl ?_)
       refine RL.nil ?_
       refine CW.block ?_
       refine CW.seq ?_
       refine CW.region ?_
       refine RL.opS trivial rfl (OpW.bin (k := .u64) (a := (Int.tmod (IntKind.u64.wrap x53) 3)) (b := 0) (v := .bool (decide ((Int.tmod (IntKind.u64.wrap x53) 3) = 0))) rfl rfl rfl ?_)
       refine RL.opS trivial rfl (OpW.assign (v := .bool (decide ((Int.tmod (IntKind.u64.wrap x53) 3) = 0))) rfl ?_)
       refine RL.nil ?_
       obtain ⟨ha, hc⟩ := h
       refine CW.cond (b := (decide ((Int.tmod (IntKind.u64.wrap x53) 3) = 0))) rfl (fun hb54 => ?_) (fun hb54 => ?_)
       ·have h := ha hb54; clear ha hc
        refine CW.seq ?_
        refine CW.region ?_
        refine RL.opS trivial rfl (OpW.move (v := .pointer x15.1) e42 ?_)
        refine RL.opS trivial rfl (OpW.fieldAddr field_35_1 rfl ?_)
        obtain ⟨x55, h1, h⟩ := h
        refine RL.opS trivial rfl (OpW.load1 (v := .int .i64 x55) one_3 rfl h1 ?_)
        refine RL.opS trivial rfl (OpW.callR (al := [.pointer x15.1, .int .i64 x55]) Try.func8 fb_8 fn_8 rfl h (fun x56 w57 h => ?_))
        refine RL.opS trivial rfl (OpW.move (v := .tuple #[Sl.v x56.1, .bool x56.2]) rfl ?_)
        refine RL.opS trivial rfl (OpW.extract (v := Sl.v x56.1) rfl rfl ?_)
        refine RL.opS trivial rfl (OpW.extract (v := .bool x56.2) rfl rfl ?_)
        refine RL.opS trivial rfl (OpW.assign (v := Sl.v x56.1) rfl ?_)
        refine RL.opS trivial rfl (OpW.assign (v := .bool x56.2) rfl ?_)
        refine RL.nil ?_
        refine CW.seq ?_
        refine CW.region ?_
        obtain ⟨x58, h1, h2, h⟩ := h
        refine RL.opS trivial rfl (OpW.loadA agg_31 e43 h1 h2 ?_)
        refine RL.opS trivial rfl (OpW.fieldAddr field_35_1 rfl ?_)
        obtain ⟨x59, h1, h⟩ := h
        refine RL.opS trivial rfl (OpW.load1 (v := .int .i64 x59) one_3 rfl h1 ?_)
        refine RL.opS trivial rfl (OpW.callR (al := [aggv x58, .int .i64 x59]) Try.func9 fb_9 fn_9 rfl h (fun x60 w61 h => ?_))
        refine RL.opS trivial rfl (OpW.move (v := .tuple #[aggv x60.1, str x60.2.1, .bool x60.2.2]) rfl ?_)
        refine RL.opS trivial rfl (OpW.extract (v := aggv x60.1) rfl rfl ?_)
        refine RL.opS trivial rfl (OpW.extract (v := str x60.2.1) rfl rfl ?_)
        refine RL.opS trivial rfl (OpW.extract (v := .bool x60.2.2) rfl rfl ?_)
        obtain ⟨hl_b62, ho_b62, h⟩ := h
        obtain ⟨b62, hb62_⟩ : ∃ b_, b_ = w61.heap.size := ⟨_, rfl⟩
        obtain ⟨w63, hw63_⟩ : ∃ w_, w_ = w61.alloc (.cells (List.toArray x60.1) 31) := ⟨_, rfl⟩
        have h := h b62 w63 hb62_ hw63_
        refine RL.opS trivial rfl (OpW.allocZ (b := b62) zero_31 hb62_ ?_)
        refine RL.opN trivial (OpW.storeF (zs := [Value.slice none 0 0, Value.int .i64 0, Value.int .i64 0, Value.int .i64 0]) (cs := x60.1) size_31 rfl rfl hl_b62 (by decide) ho_b62 hb62_ hw63_ ?_)
        refine RL.opS trivial rfl (OpW.assign (v := str x60.2.1) rfl ?_)
        refine RL.opS trivial rfl (OpW.assign (v := .bool x60.2.2) rfl ?_)
        refine RL.nil ?_
        obtain ⟨w64, hw64_⟩ : ∃ w_, w_ = w63.drew := ⟨_, rfl⟩
        have h := h w64 hw64_
        have hx65 : Ext w63 w64 := by rw [hw64_]; exact Ext.drew _
        refine CW.draws (m := 12) (listed := #[F,F,F,F,F,F,F,F,F,F,F,F]) mixed [0, 1, 2, 3, 4, 5, 6, 7, 8, 9, 10] (Ext w63) rfl rfl ?_
        rw [← hw64_]
        refine DL.takeP (listed' := #[T,F,F,F,F,F,F,F,F,F,F,F]) (v := .bool x56.2) 0 rfl rfl (by kernel_rfl) rfl trivial rfl (fun w_ K_ h_ => OpW.move (v := .bool x56.2) rfl h_) ?_
        refine DL.takeP (listed' := #[T,T,F,F,F,F,F,F,F,F,F,F]) (v := .bool x60.2.2) 1 rfl rfl (by kernel_rfl) rfl trivial rfl (fun w_ K_ h_ => OpW.move (v := .bool x60.2.2) rfl h_) ?_
        refine DL.takeP (listed' := #[T,T,T,F,F,F,F,F,F,F,F,F]) (v := .bool (x56.2 == x60.2.2)) 2 rfl rfl (by kernel_rfl) rfl trivial rfl (fun w_ K_ h_ => OpW.boolCmp (b := x56.2 == x60.2.2) ub_4 rfl rfl rfl h_) ?_
        refine DL.takeP (listed' := #[T,T,T,T,F,F,F,F,F,F,F,F]) (v := .bool (x56.2 == x60.2.2)) 3 rfl rfl (by kernel_rfl) rfl trivial rfl (fun w_ K_ h_ => OpW.move (v := .bool (x56.2 == x60.2.2)) rfl h_) ?_
        refine jn_elim h ?_; clear h; intro k81 hk82 h
        refine DL.cutS (A := Bool) (fun s69 ρ => ρ 104 = .bool s69 ∧ ρ 5 = .pointer x15.1 ∧ ρ 7 = .pointer (some ⟨b36, 0, none⟩) ∧ ρ 13 = .pointer (some ⟨b62, 0, none⟩) ∧ ρ 55 = Sl.v p1 ∧ ρ 56 = .int .i64 (p1.len : Int) ∧ ρ 57 = .int .i64 s38) k81 3 #[T,T,T,T,T,T,T,T,T,F,F,F] ?_ ?_
        ·rintro s69 ρ w70 ⟨e72, e73, e74, e75, e76, e77, e78⟩ hx71 h
         subst hk82
         obtain ⟨x79, h1, h2, h⟩ := h
         refine DL.takeK (listed' := #[T,T,T,T,T,T,T,T,T,T,F,F]) (v := aggv x79) 9 rfl rfl (by kernel_rfl) (by kernel_rfl) rfl trivial rfl hx71 (fun w_ hS_ K_ h_ => OpW.loadA agg_31 e75 h1 (hS_.at h2) h_) ?_
         refine DL.takeP (listed' := #[T,T,T,T,T,T,T,T,T,T,T,F]) (v := .bool s69) 10 rfl rfl (by kernel_rfl) rfl trivial rfl (fun w_ K_ h_ => OpW.assign (v := .bool s69) e72 h_) ?_
         obtain ⟨g_, o_, e_, cur_, ha_, h1, h2, h3, h4, h⟩ := h
         obtain ⟨w80, hw80_⟩ : ∃ w_, w_ = w70.setRow g_ (cur_.toList.take o_ ++ x79 ++ cur_.toList.drop (o_ + List.length x79)).toArray := ⟨_, rfl⟩
         have h := h w80 hw80_
         refine DL.execN (listed' := #[T,T,T,T,T,T,T,T,T,T,T,T]) 11 rfl (by kernel_rfl) rfl trivial (OpW.storeAE (cs := x79) size_31 e74 rfl ha_ h1 h2 h3 h4 hw80_ ?_)
         refine ⟨(fun h_ => absurd h_ (by decide)), ?_⟩
         refine DL.done (by kernel_rfl) ?_
         exact ⟨s69, ⟨rfl, e73, e74, e76, e77, e78⟩, h⟩
        ·intro hJJ66; clear hk82
         obtain ⟨ha, hc⟩ := h
         rcases Bool.eq_false_or_eq_true (x56.2 == x60.2.2) with hb67 | hb67
         ·have h := ha hb67; clear ha hc
          refine DL.takeP (listed' := #[T,T,T,T,T,F,F,F,F,F,F,F]) (v := Sl.v x56.1) 4 rfl rfl (by kernel_rfl) rfl (wanted_of rfl rfl hb67) rfl (fun w_ K_ h_ => OpW.move (v := Sl.v x56.1) rfl h_) ?_
          obtain ⟨x68, h1, h2, h⟩ := h
          refine DL.takeK (listed' := #[T,T,T,T,T,T,F,F,F,F,F,F]) (v := str x68) 5 rfl rfl (by kernel_rfl) (by kernel_rfl) rfl (wanted_of rfl rfl hb67) rfl hx65 (fun w_ hS_ K_ h_ => OpW.b2s bsl_33 str_9 rfl h1 (hS_.atO h2) h_) ?_
          refine DL.takeP (listed' := #[T,T,T,T,T,T,T,F,F,F,F,F]) (v := str x60.2.1) 6 rfl rfl (by kernel_rfl) rfl (wanted_of rfl rfl hb67) rfl (fun w_ K_ h_ => OpW.move (v := str x60.2.1) rfl h_) ?_
          refine DL.takeP (listed' := #[T,T,T,T,T,T,T,T,F,F,F,F]) (v := .bool (decide (x68 = x60.2.1))) 7 rfl rfl (by kernel_rfl) rfl (wanted_of rfl rfl hb67) rfl (fun w_ K_ h_ => OpW.strCmp (b := decide (x68 = x60.2.1)) rfl rfl rfl h_) ?_
          refine DL.takeP (listed' := #[T,T,T,T,T,T,T,T,T,F,F,F]) (v := .bool (decide (x68 = x60.2.1))) 8 rfl rfl (by kernel_rfl) rfl trivial rfl (fun w_ K_ h_ => OpW.pick (b := true) (v := .bool (decide (x68 = x60.2.1))) (congrArg Value.bool hb67) rfl h_) ?_
          exact hJJ66 _ _ ⟨(decide (x68 = x60.2.1)), ⟨rfl, e42, e43, rfl, e44, e45, e41⟩, hx65, h⟩
         ·have h := hc hb67; clear ha hc
          refine DL.skipP (listed' := #[T,T,T,T,T,F,F,F,F,F,F,F]) 4 rfl (by kernel_rfl) rfl (notWanted_of rfl rfl hb67) rfl ?_
          refine DL.skipP (listed' := #[T,T,T,T,T,T,F,F,F,F,F,F]) 5 rfl (by kernel_rfl) rfl (notWanted_of rfl rfl hb67) rfl ?_
          refine DL.skipP (listed' := #[T,T,T,T,T,T,T,F,F,F,F,F]) 6 rfl (by kernel_rfl) rfl (notWanted_of rfl rfl hb67) rfl ?_
          refine DL.skipP (listed' := #[T,T,T,T,T,T,T,T,F,F,F,F]) 7 rfl (by kernel_rfl) rfl (notWanted_of rfl rfl hb67) rfl ?_
          refine DL.takeP (listed' := #[T,T,T,T,T,T,T,T,T,F,F,F]) (v := .bool false) 8 rfl rfl (by kernel_rfl) rfl trivial rfl (fun w_ K_ h_ => OpW.pick (b := false) (v := .bool false) (congrArg Value.bool hb67) rfl h_) ?_
          exact hJJ66 _ _ ⟨false, ⟨rfl, e42, e43, rfl, e44, e45, e41⟩, hx65, h⟩
       ·have h := hc hb54; clear ha hc
        refine CW.seq ?_
        refine CW.region ?_
        refine RL.opS trivial rfl (OpW.bin (k := .u64) (a := (Int.tmod (IntKind.u64.wrap x53) 3)) (b := 1) (v := .bool (decide ((Int.tmod (IntKind.u64.wrap x53) 3) = 1))) rfl rfl rfl ?_)
        refine RL.opS trivial rfl (OpW.assign (v := .bool (decide ((Int.tmod (IntKind.u64.wrap x53) 3) = 1))) rfl ?_)
        refine RL.nil ?_
        obtain ⟨ha, hc⟩ := h
        refine CW.cond (b := (decide ((Int.tmod (IntKind.u64.wrap x53) 3) = 1))) rfl (fun hb83 => ?_) (fun hb83 => ?_)
        ·have h := ha hb83; clear ha hc
         refine CW.seq ?_
         refine CW.region ?_
         obtain ⟨b84, hb84_⟩ : ∃ b_, b_ = w51.heap.size := ⟨_, rfl⟩
         obtain ⟨w85, hw85_⟩ : ∃ w_, w_ = w51.alloc (.cells (List.toArray []) 5) := ⟨_, rfl⟩
         have h := h b84 w85 hb84_ hw85_
         refine RL.opS trivial rfl (OpW.buildSliceE (vs := []) (cs := []) (by rfl) (by kernel_rfl) hb84_ hw85_ ?_)
         refine RL.opS trivial rfl (OpW.fieldAddr field_35_2 rfl ?_)
         obtain ⟨x86, h1, h⟩ := h
         refine RL.opS trivial rfl (OpW.load1 (v := Sl.v x86) one_33 rfl h1 ?_)
         obtain ⟨x87, w88, hr_, h⟩ := h
         refine RL.opS trivial rfl (OpW.appendL (v := Sl.v x87) rfl hr_ ?_)
         refine RL.opS trivial rfl (OpW.assign (v := Sl.v x87) rfl ?_)
         refine RL.nil ?_
         refine CW.seq ?_
         refine CW.region ?_
         refine RL.opS trivial rfl (OpW.move (v := .pointer x15.1) e42 ?_)
         refine RL.opS trivial rfl (OpW.fieldAddr field_35_1 rfl ?_)
         obtain ⟨x89, h1, h⟩ := h
         refine RL.opS trivial rfl (OpW.load1 (v := .int .i64 x89) one_3 rfl h1 ?_)
         refine RL.opS trivial rfl (OpW.move (v := Sl.v x87) rfl ?_)
         refine RL.opS trivial rfl (OpW.callR (al := [.pointer x15.1, .int .i64 x89, Sl.v x87]) Try.func10 fb_10 fn_10 rfl h (fun x90 w91 h => ?_))
         refine RL.opS trivial rfl (OpW.assign (v := .int .i64 x90) rfl ?_)
         refine RL.nil ?_
         refine CW.seq ?_
         refine CW.region ?_
         obtain ⟨x92, h1, h2, h⟩ := h
         refine RL.opS trivial rfl (OpW.loadA agg_31 e43 h1 h2 ?_)
         refine RL.opS trivial rfl (OpW.fieldAddr field_35_1 rfl ?_)
         obtain ⟨x93, h1, h⟩ := h
         refine RL.opS trivial rfl (OpW.load1 (v := .int .i64 x93) one_3 rfl h1 ?_)
         refine RL.opS trivial rfl (OpW.fieldAddr field_35_2 rfl ?_)
         obtain ⟨x94, h1, h⟩ := h
         refine RL.opS trivial rfl (OpW.load1 (v := Sl.v x94) one_33 rfl h1 ?_)
         obtain ⟨x95, h1, h2, h⟩ := h
         refine RL.opS trivial rfl (OpW.b2s bsl_33 str_9 rfl h1 h2 ?_)
         refine RL.opS trivial rfl (OpW.callR (al := [aggv x92, .int .i64 x93, str x95]) Try.func11 fb_11 fn_11 rfl h (fun x96 w97 h => ?_))
         refine RL.opS trivial rfl (OpW.move (v := .tuple #[aggv x96.1, .int .i64 x96.2]) rfl ?_)
         refine RL.opS trivial rfl (OpW.extract (v := aggv x96.1) rfl rfl ?_)
         refine RL.opS trivial rfl (OpW.extract (v := .int .i64 x96.2) rfl rfl ?_)
         obtain ⟨hl_b98, ho_b98, h⟩ := h
         obtain ⟨b98, hb98_⟩ : ∃ b_, b_ = w97.heap.size := ⟨_, rfl⟩
         obtain ⟨w99, hw99_⟩ : ∃ w_, w_ = w97.alloc (.cells (List.toArray x96.1) 31) := ⟨_, rfl⟩
         have h := h b98 w99 hb98_ hw99_
         refine RL.opS trivial rfl (OpW.allocZ (b := b98) zero_31 hb98_ ?_)
         refine RL.opN trivial (OpW.storeF (zs := [Value.slice none 0 0, Value.int .i64 0, Value.int .i64 0, Value.int .i64 0]) (cs := x96.1) size_31 rfl rfl hl_b98 (by decide) ho_b98 hb98_ hw99_ ?_)
         refine RL.opS trivial rfl (OpW.assign (v := .int .i64 x96.2) rfl ?_)
         refine RL.nil ?_
         refine CW.seq ?_
         obtain ⟨w100, hw100_⟩ : ∃ w_, w_ = w99.drew := ⟨_, rfl⟩
         have h := h w100 hw100_
         have hx101 : Ext w99 w100 := by rw [hw100_]; exact Ext.drew _
         refine CW.draws (m := 6) (listed := #[F,F,F,F,F,F]) mixed [0, 1, 2, 3, 4] (Ext w99) rfl rfl ?_
         rw [← hw100_]
         refine DL.takeP (listed' := #[T,F,F,F,F,F]) (v := .int .i64 x90) 0 rfl rfl (by kernel_rfl) rfl trivial rfl (fun w_ K_ h_ => OpW.move (v := .int .i64 x90) rfl h_) ?_
         refine DL.takeP (listed' := #[T,T,F,F,F,F]) (v := .int .i64 x96.2) 1 rfl rfl (by kernel_rfl) rfl trivial rfl (fun w_ K_ h_ => OpW.move (v := .int .i64 x96.2) rfl h_) ?_
         refine DL.takeP (listed' := #[T,T,T,F,F,F]) (v := .bool (decide (x90 = x96.2))) 2 rfl rfl (by kernel_rfl) rfl trivial rfl (fun w_ K_ h_ => OpW.bin (k := .i64) (a := x90) (b := x96.2) (v := .bool (decide (x90 = x96.2))) rfl rfl rfl h_) ?_
         obtain ⟨x102, h1, h2, h⟩ := h
         refine DL.takeK (listed' := #[T,T,T,T,F,F]) (v := aggv x102) 3 rfl rfl (by kernel_rfl) (by kernel_rfl) rfl trivial rfl hx101 (fun w_ hS_ K_ h_ => OpW.loadA agg_31 rfl h1 (hS_.at h2) h_) ?_
         refine DL.takeP (listed' := #[T,T,T,T,T,F]) (v := .bool (decide (x90 = x96.2))) 4 rfl rfl (by kernel_rfl) rfl trivial rfl (fun w_ K_ h_ => OpW.assign (v := .bool (decide (x90 = x96.2))) rfl h_) ?_
         obtain ⟨g_, o_, e_, cur_, ha_, h1, h2, h3, h4, h⟩ := h
         obtain ⟨w103, hw103_⟩ : ∃ w_, w_ = w100.setRow g_ (cur_.toList.take o_ ++ x102 ++ cur_.toList.drop (o_ + List.length x102)).toArray := ⟨_, rfl⟩
         have h := h w103 hw103_
         refine DL.execN (listed' := #[T,T,T,T,T,T]) 5 rfl (by kernel_rfl) rfl trivial (OpW.storeAE (cs := x102) size_31 e43 rfl ha_ h1 h2 h3 h4 hw103_ ?_)
         refine ⟨(fun h_ => absurd h_ (by decide)), ?_⟩
         refine DL.done (by kernel_rfl) ?_
         refine CW.seq ?_
         refine CW.region ?_
         refine RL.opS trivial rfl (OpW.move (v := Sl.v x87) rfl ?_)
         refine RL.opS trivial rfl (OpW.len (s := x87) slice_33 rfl ?_)
         refine RL.opS trivial rfl (OpW.move (v := .int .i64 0) rfl ?_)
         refine RL.nil ?_
         refine CW.block ?_
         obtain ⟨I123, mu124, hI, hs⟩ := h
         refine CW.loop (σ := Int) (fun s104 ρ => ρ 133 = .int .i64 s104 ∧ ρ 5 = .pointer x15.1 ∧ ρ 7 = .pointer (some ⟨b36, 0, none⟩) ∧ ρ 10 = .bool (decide (x90 = x96.2)) ∧ ρ 16 = Sl.v x87 ∧ ρ 55 = Sl.v p1 ∧ ρ 56 = .int .i64 (p1.len : Int) ∧ ρ 57 = .int .i64 s38 ∧ ρ 132 = .int .i64 (x87.len : Int)) I123 mu124 0 ⟨rfl, e42, e43, rfl, rfl, e44, e45, e41, rfl⟩ hI ?_
         rintro s104 ρ w105 ⟨e107, e108, e109, e110, e111, e112, e113, e114, e115⟩ hI
         have h := hs s104 w105 hI
         clear hs hI
         refine CW.seq ?_
         refine CW.region ?_
         refine RL.opS trivial rfl (OpW.bin (k := .i64) (a := s104) (b := (x87.len : Int)) (v := .bool (decide (s104 < (x87.len : Int)))) e107 e115 rfl ?_)
         refine RL.nil ?_
         refine CW.seq ?_
         obtain ⟨ha, hc⟩ := h
         refine CW.cond (b := (decide (s104 < (x87.len : Int)))) rfl (fun hb116 => ?_) (fun hb116 => ?_)
         ·have h := ha hb116; clear ha hc
          refine CW.skip ?_
          refine CW.seq ?_
          refine CW.block ?_
          refine CW.seq ?_
          refine CW.region ?_
          refine RL.opS trivial rfl (OpW.move (v := .int .i64 s104) e107 ?_)
          refine RL.opS trivial rfl (OpW.assign (v := .int .i64 s104) rfl ?_)
          refine RL.nil ?_
          refine CW.region ?_
          refine RL.opS trivial rfl (OpW.move (v := Sl.v x87) e111 ?_)
          refine RL.opS trivial rfl (OpW.move (v := .int .i64 s104) rfl ?_)
          obtain ⟨a117_, a117, h1, h2, h3, h4, h⟩ := h
          refine RL.opS trivial rfl (OpW.indexE (a' := a117) slice_33 rfl rfl h1 h2 h3 h4 ?_)
          obtain ⟨x119, h1, h⟩ := h
          refine RL.opS trivial rfl (OpW.load1 (v := .int .u8 x119) one_5 rfl h1 ?_)
          refine RL.opS trivial rfl (OpW.bin (k := .u8) (a := x119) (b := 1) (v := .int .u8 (IntKind.u8.wrap (x119 + 1))) rfl rfl rfl ?_)
          obtain ⟨a120_, a120, h1, h2, h3, h4, h⟩ := h
          refine RL.opS trivial rfl (OpW.indexE (a' := a120) slice_33 rfl rfl h1 h2 h3 h4 ?_)
          obtain ⟨u_, h1, h2, h⟩ := h
          obtain ⟨w122, hw122_⟩ : ∃ w_, w_ = w105.setCell a120 (.int .u8 (IntKind.u8.wrap (x119 + 1))) := ⟨_, rfl⟩
          have h := h w122 hw122_
          refine RL.opN trivial (OpW.store1E (v := .int .u8 (IntKind.u8.wrap (x119 + 1))) size_5 rfl rfl rfl h1 h2 hw122_ ?_)
          refine RL.nil ?_
          refine CW.region ?_
          refine RL.opS trivial rfl (OpW.bin (k := .i64) (a := s104) (b := 1) (v := .int .i64 (IntKind.i64.wrap (s104 + 1))) e107 rfl rfl ?_)
          refine RL.opS trivial rfl (OpW.move (v := .int .i64 (IntKind.i64.wrap (s104 + 1))) rfl ?_)
          refine RL.nil ?_
          exact ⟨(IntKind.i64.wrap (s104 + 1)), ⟨rfl, e108, e109, e110, e111, e112, e113, e114, e115⟩, h⟩
         ·have h := hc hb116; clear ha hc
          refine CW.exit ?_
          exact ⟨(decide (x90 = x96.2)), ⟨e110, e108, e109, e112, e113, e114⟩, h⟩
        ·have h := hc hb83; clear ha hc
         refine CW.seq ?_
         refine CW.region ?_
         obtain ⟨x125, h1, h2, h⟩ := h
         refine RL.opS trivial rfl (OpW.loadA agg_31 e43 h1 h2 ?_)
         refine RL.opS trivial rfl (OpW.fieldAddr field_35_1 rfl ?_)
         obtain ⟨x126, h1, h⟩ := h
         refine RL.opS trivial rfl (OpW.load1 (v := .int .i64 x126) one_3 rfl h1 ?_)
         refine RL.opS trivial rfl (OpW.callR (al := [aggv x125, .int .i64 x126]) Try.func12 fb_12 fn_12 rfl h (fun x127 w128 h => ?_))
         refine RL.opS trivial rfl (OpW.move (v := .tuple #[aggv x127.1, .bool x127.2]) rfl ?_)
         refine RL.opS trivial rfl (OpW.extract (v := aggv x127.1) rfl rfl ?_)
         refine RL.opS trivial rfl (OpW.extract (v := .bool x127.2) rfl rfl ?_)
         obtain ⟨hl_b129, ho_b129, h⟩ := h
         obtain ⟨b129, hb129_⟩ : ∃ b_, b_ = w128.heap.size := ⟨_, rfl⟩
         obtain ⟨w130, hw130_⟩ : ∃ w_, w_ = w128.alloc (.cells (List.toArray x127.1) 31) := ⟨_, rfl⟩
         have h := h b129 w130 hb129_ hw130_
         refine RL.opS trivial rfl (OpW.allocZ (b := b129) zero_31 hb129_ ?_)
         refine RL.opN trivial (OpW.storeF (zs := [Value.slice none 0 0, Value.int .i64 0, Value.int .i64 0, Value.int .i64 0]) (cs := x127.1) size_31 rfl rfl hl_b129 (by decide) ho_b129 hb129_ hw130_ ?_)
         refine RL.opS trivial rfl (OpW.assign (v := .bool x127.2) rfl ?_)
         refine RL.nil ?_
         obtain ⟨X131, h⟩ := h
         obtain ⟨w132, hw132_⟩ : ∃ w_, w_ = w130.drew := ⟨_, rfl⟩
         have h := h w132 hw132_
         have hx133 : ExtX X131 w130 w132 := by rw [hw132_]; exact ExtX.of (Ext.drew _)
         refine CW.draws (m := 9) (listed := #[F,F,F,F,F,F,F,F,F]) mixed [0, 1, 2, 3, 4, 5, 6, 7] (ExtX X131 w130) rfl rfl ?_
         rw [← hw132_]
         refine DL.takeP (listed' := #[T,F,F,F,F,F,F,F,F]) (v := .pointer x15.1) 0 rfl rfl (by kernel_rfl) rfl trivial rfl (fun w_ K_ h_ => OpW.move (v := .pointer x15.1) e42 h_) ?_
         refine DL.takeP (listed' := #[T,T,F,F,F,F,F,F,F]) (v := .pointer (some (Addr.add ⟨b50, 0, none⟩ 1))) 1 rfl rfl (by kernel_rfl) rfl trivial rfl (fun w_ K_ h_ => OpW.fieldAddr field_35_1 rfl h_) ?_
         obtain ⟨hne135, h⟩ := h
         obtain ⟨x134, h1, h⟩ := h
         refine DL.takeK (listed' := #[T,T,T,F,F,F,F,F,F]) (v := .int .i64 x134) 2 rfl rfl (by kernel_rfl) (by kernel_rfl) rfl trivial rfl hx133 (fun w_ hS_ K_ h_ => OpW.load1 (v := .int .i64 x134) one_3 rfl (hS_.cell hne135 h1) h_) ?_
         refine DL.takeP (listed' := #[T,T,T,F,T,F,F,F,F]) (v := .bool x127.2) 4 rfl rfl (by kernel_rfl) rfl trivial rfl (fun w_ K_ h_ => OpW.move (v := .bool x127.2) rfl h_) ?_
         obtain ⟨hne137, h⟩ := h
         obtain ⟨x136, h1, h2, h⟩ := h
         refine DL.takeK (listed' := #[T,T,T,F,T,F,T,F,F]) (v := aggv x136) 6 rfl rfl (by kernel_rfl) (by kernel_rfl) rfl trivial rfl hx133 (fun w_ hS_ K_ h_ => OpW.loadA agg_31 rfl h1 (hS_.at hne137 h2) h_) ?_
         refine DL.execS (listed' := #[T,T,T,T,T,F,T,F,F]) 3 rfl (by kernel_rfl) rfl trivial rfl (OpW.callR (al := [.pointer x15.1, .int .i64 x134]) Try.func13 fb_13 fn_13 rfl h (fun x138 w139 h => ?_))
         obtain ⟨hxc_, h⟩ := h
         have hx140 := ExtX.trans hx133 hxc_
         refine ⟨(fun _ _ => hx140), ?_⟩
         refine DL.takeP (listed' := #[T,T,T,T,T,T,T,F,F]) (v := .bool (x138 == x127.2)) 5 rfl rfl (by kernel_rfl) rfl trivial rfl (fun w_ K_ h_ => OpW.boolCmp (b := x138 == x127.2) ub_4 rfl rfl rfl h_) ?_
         refine DL.takeP (listed' := #[T,T,T,T,T,T,T,T,F]) (v := .bool (x138 == x127.2)) 7 rfl rfl (by kernel_rfl) rfl trivial rfl (fun w_ K_ h_ => OpW.assign (v := .bool (x138 == x127.2)) rfl h_) ?_
         obtain ⟨g_, o_, e_, cur_, ha_, h1, h2, h3, h4, h⟩ := h
         obtain ⟨w141, hw141_⟩ : ∃ w_, w_ = w139.setRow g_ (cur_.toList.take o_ ++ x136 ++ cur_.toList.drop (o_ + List.length x136)).toArray := ⟨_, rfl⟩
         have h := h w141 hw141_
         refine DL.execN (listed' := #[T,T,T,T,T,T,T,T,T]) 8 rfl (by kernel_rfl) rfl trivial (OpW.storeAE (cs := x136) size_31 e43 rfl ha_ h1 h2 h3 h4 hw141_ ?_)
         refine ⟨(fun h_ => absurd h_ (by decide)), ?_⟩
         refine DL.done (by kernel_rfl) ?_
         exact ⟨(x138 == x127.2), ⟨rfl, e42, e43, e44, e45, e41⟩, h⟩
     ·have h := hc hb46; clear ha hc
      refine CW.exit ?_
      refine CW.seq ?_
      refine CW.region ?_
      refine RL.opS trivial rfl (OpW.assign (v := .bool true) rfl ?_)
      refine RL.nil ?_
      refine CW.ret ?_
      exact ret_intro (res1 rfl rfl) ⟨true, rfl, h⟩
   ·clear hk227
    dsimp only [List.take]
    obtain ⟨ha, hc⟩ := h
    rcases Bool.eq_false_or_eq_true (decide (p0 < 1)) with hb17 | hb17
    ·have h := ha hb17; clear ha hc
     refine RL.skipS (notWanted_of rfl rfl hb17) rfl ?_
     refine RL.skipS (notWanted_of rfl rfl hb17) rfl ?_
     refine RL.opS trivial rfl (OpW.pick (b := true) (v := .bool true) (congrArg Value.bool hb17) rfl ?_)
     refine RL.nil ?_
     exact ⟨true, ⟨rfl, e10, e11, rfl, rfl⟩, h⟩
    ·have h := hc hb17; clear ha hc
     refine RL.opS (wanted_of rfl rfl hb17) rfl (OpW.move (v := .int .i64 p0) e10 ?_)
     refine RL.opS (wanted_of rfl rfl hb17) rfl (OpW.bin (k := .i64) (a := p0) (b := 64) (v := .bool (decide (64 < p0))) rfl rfl rfl ?_)
     refine RL.opS trivial rfl (OpW.pick (b := false) (v := .bool (decide (64 < p0))) (congrArg Value.bool hb17) rfl ?_)
     refine RL.nil ?_
     exact ⟨(decide (64 < p0)), ⟨rfl, e10, e11, rfl, rfl⟩, h⟩
 ·clear hk229
  dsimp only [List.take]
  obtain ⟨ha, hc⟩ := h
  rcases Bool.eq_false_or_eq_true (!x1) with hb3 | hb3
  ·have h := ha hb3; clear ha hc
   refine RL.skipS (notWanted_of rfl rfl hb3) rfl ?_
   refine RL.skipS (notWanted_of rfl rfl hb3) rfl ?_
   refine RL.skipS (notWanted_of rfl rfl hb3) rfl ?_
   refine RL.opS trivial rfl (OpW.pick (b := true) (v := .bool true) (congrArg Value.bool hb3) rfl ?_)
   refine RL.nil ?_
   exact ⟨true, ⟨rfl, rfl, rfl⟩, h⟩
  ·have h := hc hb3; clear ha hc
   refine RL.opS (wanted_of rfl rfl hb3) rfl (OpW.move (v := Sl.v p1) rfl ?_)
   refine RL.opS (wanted_of rfl rfl hb3) rfl (OpW.callR (al := [Sl.v p1]) Try.func5 fb_5 fn_5 rfl h (fun x5 w6 h => ?_))
   refine RL.opS (wanted_of rfl rfl hb3) rfl (OpW.not rfl ?_)
   refine RL.opS trivial rfl (OpW.pick (b := false) (v := .bool (!x5)) (congrArg Value.bool hb3) rfl ?_)
   refine RL.nil ?_
   exact ⟨(!x5), ⟨rfl, rfl, rfl⟩, h⟩
end Go.Proofs.Ytijopkmclcbehaa
end

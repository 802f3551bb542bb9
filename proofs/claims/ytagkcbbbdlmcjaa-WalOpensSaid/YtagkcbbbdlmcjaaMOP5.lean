/- Parts of a proof, one behind the other: readings of functions, what they do, and what follows. -/
import Derived.Test.YtagkcbbbdlmcjaaMOP4
set_option linter.unusedVariables false
set_option linter.unusedSimpArgs false
section
/- The typed readings of the functions, and that the program meets each: written by gen.py (a program of this session). -/
namespace Go.Proofs.Ytagkcbbbdlmcjaa
open Go.Lift
set_option maxRecDepth 100000 in
set_option maxHeartbeats 4000000 in
theorem s80_calls (K : List Value × Int → World → Prop) (p0 : List Value) (p1 : Int) (p2 : List UInt8) (w : World) (h : s80 K p0 p1 p2 w) :
  Calls Try.prog 80 #[aggv p0, .int .u64 p1, str p2] w (Ret r80 K) := by
 unfold s80 at h
 refine calls_of_CW (n := 46) Try.func80 rfl rfl rfl ?_
 refine CW.seq ?_
 refine CW.region ?_
 obtain ⟨b1, hb1_⟩ : ∃ b_, b_ = w.heap.size := ⟨_, rfl⟩
 obtain ⟨w2, hw2_⟩ : ∃ w_, w_ = w.alloc (.cells (List.toArray p0) 52) := ⟨_, rfl⟩
 have h := h b1 w2 hb1_ hw2_
 refine RL.opS trivial rfl (OpW.boxE (cs := p0) (rfl) hb1_ hw2_ ?_)
 obtain ⟨b3, hb3_⟩ : ∃ b_, b_ = w2.heap.size := ⟨_, rfl⟩
 obtain ⟨w4, hw4_⟩ : ∃ w_, w_ = w2.alloc (.cells (List.toArray [Value.slice none 0 0, Value.slice none 0 0, Value.slice none 0 0, Value.int .i64 0, Value.bool false, Value.int .i64 0, Value.int .i64 0, Value.int .u64 0, str [], Value.int .i64 0, Value.bool false]) 52) := ⟨_, rfl⟩
 have h := h b3 w4 hb3_ hw4_
 refine RL.opS trivial rfl (OpW.allocE (b := b3) zero_52 hb3_ hw4_ ?_)
 refine RL.opS trivial rfl (OpW.assign (v := .int .i64 0) rfl ?_)
 refine RL.nil ?_
 refine CW.seq ?_
 obtain ⟨w5, hw5_⟩ : ∃ w_, w_ = w4.drew := ⟨_, rfl⟩
 have h := h w5 hw5_
 have hx6 : Ext w4 w5 := by rw [hw5_]; exact Ext.drew _
 refine CW.draws (m := 20) (listed := #[F,F,F,F,F,F,F,F,F,F,F,F,F,F,F,F,F,F,F,F]) mixed [0, 1, 2, 3, 4, 5, 6, 7, 8, 9, 10, 11, 12, 14, 15, 16, 17, 19] (Ext w4) rfl rfl ?_
 rw [← hw5_]
 refine DL.takeP (listed' := #[T,F,F,F,F,F,F,F,F,F,F,F,F,F,F,F,F,F,F,F]) (v := .pointer (some (Addr.add ⟨b1, 0, none⟩ 0))) 0 rfl rfl (by kernel_rfl) rfl trivial rfl (fun w_ K_ h_ => OpW.fieldAddr (off := 0) field_52_0 rfl h_) ?_
 obtain ⟨x7, h1, h2, h⟩ := h
 refine DL.takeK (listed' := #[T,T,F,F,F,F,F,F,F,F,F,F,F,F,F,F,F,F,F,F]) (v := aggv x7) 1 rfl rfl (by kernel_rfl) (by kernel_rfl) rfl trivial rfl hx6 (fun w_ hS_ K_ h_ => OpW.loadA agg_49 rfl h1 (hS_.at h2) h_) ?_
 refine DL.takeP (listed' := #[T,T,T,F,F,F,F,F,F,F,F,F,F,F,F,F,F,F,F,F]) (v := .pointer (some (Addr.add ⟨b1, 0, none⟩ 5))) 2 rfl rfl (by kernel_rfl) rfl trivial rfl (fun w_ K_ h_ => OpW.fieldAddr field_52_1 rfl h_) ?_
 obtain ⟨x8, h1, h⟩ := h
 refine DL.takeK (listed' := #[T,T,T,T,F,F,F,F,F,F,F,F,F,F,F,F,F,F,F,F]) (v := .int .i64 x8) 3 rfl rfl (by kernel_rfl) (by kernel_rfl) rfl trivial rfl hx6 (fun w_ hS_ K_ h_ => OpW.load1 (v := .int .i64 x8) one_3 rfl (hS_.cell h1) h_) ?_
 refine DL.takeP (listed' := #[T,T,T,T,T,F,F,F,F,F,F,F,F,F,F,F,F,F,F,F]) (v := .int .u64 p1) 4 rfl rfl (by kernel_rfl) rfl trivial rfl (fun w_ K_ h_ => OpW.move (v := .int .u64 p1) rfl h_) ?_
 refine DL.takeP (listed' := #[T,T,T,T,T,T,F,F,F,F,F,F,F,F,F,F,F,F,F,F]) (v := .int .u64 (Int.tmod p1 2)) 5 rfl rfl (by kernel_rfl) rfl trivial rfl (fun w_ K_ h_ => OpW.quo (a := p1) (b := 2) (v := .int .u64 (Int.tmod p1 2)) rfl rfl (by decide) rfl h_) ?_
 refine DL.takeP (listed' := #[T,T,T,T,T,T,T,F,F,F,F,F,F,F,F,F,F,F,F,F]) (v := .int .i64 (IntKind.i64.wrap (Int.tmod p1 2))) 6 rfl rfl (by kernel_rfl) rfl trivial rfl (fun w_ K_ h_ => OpW.convInt (a := (Int.tmod p1 2)) int_25 int_3 rfl h_) ?_
 refine DL.takeP (listed' := #[T,T,T,T,T,T,T,T,F,F,F,F,F,F,F,F,F,F,F,F]) (v := .int .i64 (IntKind.i64.wrap (x8 + (IntKind.i64.wrap (Int.tmod p1 2))))) 7 rfl rfl (by kernel_rfl) rfl trivial rfl (fun w_ K_ h_ => OpW.bin (k := .i64) (a := x8) (b := (IntKind.i64.wrap (Int.tmod p1 2))) (v := .int .i64 (IntKind.i64.wrap (x8 + (IntKind.i64.wrap (Int.tmod p1 2))))) rfl rfl rfl h_) ?_
 refine DL.takeP (listed' := #[T,T,T,T,T,T,T,T,T,F,F,F,F,F,F,F,F,F,F,F]) (v := .int .u64 p1) 8 rfl rfl (by kernel_rfl) rfl trivial rfl (fun w_ K_ h_ => OpW.move (v := .int .u64 p1) rfl h_) ?_
 refine DL.takeP (listed' := #[T,T,T,T,T,T,T,T,T,T,F,F,F,F,F,F,F,F,F,F]) (v := str p2) 9 rfl rfl (by kernel_rfl) rfl trivial rfl (fun w_ K_ h_ => OpW.move (v := str p2) rfl h_) ?_
 refine DL.takeP (listed' := #[T,T,T,T,T,T,T,T,T,T,T,F,F,F,F,F,F,F,F,F]) (v := .int .i64 (p2.length : Int)) 10 rfl rfl (by kernel_rfl) rfl trivial rfl (fun w_ K_ h_ => OpW.lenStr us_9 rfl h_) ?_
 refine DL.takeP (listed' := #[T,T,T,T,T,T,T,T,T,T,T,T,F,F,F,F,F,F,F,F]) (v := .int .u64 (IntKind.u64.wrap (p2.length : Int))) 11 rfl rfl (by kernel_rfl) rfl trivial rfl (fun w_ K_ h_ => OpW.convInt (a := (p2.length : Int)) int_3 int_25 rfl h_) ?_
 obtain ⟨F15, st_12, run_12, h⟩ := h
 obtain ⟨F21, st_13, run_13, h⟩ := h
 obtain ⟨F27, st_17, run_17, h⟩ := h
 refine DL.state (fun ρ_ w30 => ∃ (x9 : List UInt8) (x10 : (List Value × Int)) (x11 : Addr), Ext w5 w30 ∧ F15 () x9 w30 ∧ F21 x9 x10 w30 ∧ F27 () x11 w30 ∧ ρ_ 1 = .int .u64 p1 ∧ ρ_ 2 = str p2 ∧ ρ_ 3 = .pointer (some ⟨b1, 0, none⟩) ∧ ρ_ 6 = .pointer (some ⟨b3, 0, none⟩) ∧ ρ_ 8 = .pointer (some x11) ∧ ρ_ 25 = aggv x10.1 ∧ ρ_ 26 = .int .i64 x10.2) 2 #[T,T,T,T,T,T,T,T,T,T,T,T,T,T,T,T,T,T,F,F] ?_ ?_
 ·rintro ρ_ w30 ⟨x9, x10, x11, hx_1, f_12, f_13, f_17, e_1, e_2, e_3, e_6, e_8, e_25, e_26⟩
  have h := h x9 x10 x11 w30 hx_1 f_12 f_13 f_17
  have hx31 := Ext.trans hx6 hx_1
  obtain ⟨g_, o_, e_, cur_, ha_, h1, h2, h3, h4, h⟩ := h
  obtain ⟨w32, hw32_⟩ : ∃ w_, w_ = w30.setRow g_ (cur_.toList.take o_ ++ x10.1 ++ cur_.toList.drop (o_ + List.length x10.1)).toArray := ⟨_, rfl⟩
  have h := h w32 hw32_
  refine DL.execN (listed' := #[T,T,T,T,T,T,T,T,T,T,T,T,T,T,T,T,T,T,T,F]) 18 rfl (by kernel_rfl) rfl trivial (OpW.storeAE (cs := x10.1) size_49 e_8 e_25 ha_ h1 h2 h3 h4 hw32_ ?_)
  refine ⟨(fun h_ => absurd h_ (by decide)), ?_⟩
  refine DL.takeP (listed' := #[T,T,T,T,T,T,T,T,T,T,T,T,T,T,T,T,T,T,T,T]) (v := .int .i64 x10.2) 19 rfl rfl (by kernel_rfl) rfl trivial rfl (fun w_ K_ h_ => OpW.assign (v := .int .i64 x10.2) e_26 h_) ?_
  refine DL.done (by kernel_rfl) ?_
  refine jn_elim h ?_; clear h; intro k59 hk60 h
  refine CW.seqJ (A := Int) (fun s39 ρ => ρ 9 = .int .i64 s39 ∧ ρ 1 = .int .u64 p1 ∧ ρ 2 = str p2 ∧ ρ 3 = .pointer (some ⟨b1, 0, none⟩) ∧ ρ 6 = .pointer (some ⟨b3, 0, none⟩) ∧ ρ 8 = .pointer (some x11)) k59 ?_ ?_
  ·rintro s39 ρ w40 ⟨e41, e42, e43, e44, e45, e46⟩ h
   subst hk60
   refine CW.seq ?_
   refine CW.region ?_
   obtain ⟨x47, h1, h2, h⟩ := h
   refine RL.opS trivial rfl (OpW.loadA agg_49 e46 h1 h2 ?_)
   refine RL.opS trivial rfl (OpW.fieldAddr (off := 0) field_52_0 e44 ?_)
   obtain ⟨g_, o_, e_, cur_, ha_, h1, h2, h3, h4, h⟩ := h
   obtain ⟨w48, hw48_⟩ : ∃ w_, w_ = w40.setRow g_ (cur_.toList.take o_ ++ x47 ++ cur_.toList.drop (o_ + List.length x47)).toArray := ⟨_, rfl⟩
   have h := h w48 hw48_
   refine RL.opN trivial (OpW.storeAE (cs := x47) size_49 rfl rfl ha_ h1 h2 h3 h4 hw48_ ?_)
   refine RL.nil ?_
   refine CW.seq ?_
   refine CW.seq ?_
   refine CW.region ?_
   refine RL.opS trivial rfl (OpW.move (v := .int .i64 s39) e41 ?_)
   refine RL.opS trivial rfl (OpW.bin (k := .i64) (a := s39) (b := 0) (v := .bool (!decide (s39 = 0))) rfl rfl rfl ?_)
   refine RL.nil ?_
   obtain ⟨ha, hc⟩ := h
   refine CW.cond (b := (!decide (s39 = 0))) rfl (fun hb49 => ?_) (fun hb49 => ?_)
   ·have h := ha hb49; clear ha hc
    refine CW.seq ?_
    refine CW.region ?_
    refine RL.opS trivial rfl (OpW.fieldAddr field_52_6 e44 ?_)
    obtain ⟨u_, h1, h2, h⟩ := h
    obtain ⟨w50, hw50_⟩ : ∃ w_, w_ = w48.setCell (Addr.add ⟨b1, 0, none⟩ 10) (.bool true) := ⟨_, rfl⟩
    have h := h w50 hw50_
    refine RL.opN trivial (OpW.store1E (v := .bool true) size_4 rfl rfl rfl h1 h2 hw50_ ?_)
    refine RL.nil ?_
    refine CW.seq ?_
    refine CW.region ?_
    obtain ⟨x51, h1, h2, h⟩ := h
    refine RL.opS trivial rfl (OpW.loadA agg_52 e44 h1 h2 ?_)
    refine RL.opS trivial rfl (OpW.move (v := .int .i64 s39) e41 ?_)
    obtain ⟨g_, o_, e_, cur_, ha_, h1, h2, h3, h4, h⟩ := h
    obtain ⟨w52, hw52_⟩ : ∃ w_, w_ = w50.setRow g_ (cur_.toList.take o_ ++ x51 ++ cur_.toList.drop (o_ + List.length x51)).toArray := ⟨_, rfl⟩
    have h := h w52 hw52_
    refine RL.opN trivial (OpW.storeAE (cs := x51) size_52 e45 rfl ha_ h1 h2 h3 h4 hw52_ ?_)
    refine RL.opS trivial rfl (OpW.assign (v := .int .i64 s39) rfl ?_)
    refine RL.nil ?_
    refine CW.ret ?_
    obtain ⟨x53, hc1, hc2, h⟩ := h
    exact ret_intro (res2c rfl agg_52 e45 hc1 hc2 rfl) ⟨(x53, s39), rfl, h⟩
   ·have h := hc hb49; clear ha hc
    refine CW.skip ?_
    refine CW.seq ?_
    refine CW.region ?_
    refine RL.opS trivial rfl (OpW.move (v := .int .u64 p1) e42 ?_)
    refine RL.opS trivial rfl (OpW.move (v := str p2) e43 ?_)
    refine RL.opS trivial rfl (OpW.fieldAddr field_52_3 e44 ?_)
    obtain ⟨u_, h1, h2, h⟩ := h
    obtain ⟨w54, hw54_⟩ : ∃ w_, w_ = w48.setCell (Addr.add ⟨b1, 0, none⟩ 7) (.int .u64 p1) := ⟨_, rfl⟩
    have h := h w54 hw54_
    refine RL.opN trivial (OpW.store1E (v := .int .u64 p1) size_25 rfl rfl rfl h1 h2 hw54_ ?_)
    refine RL.opS trivial rfl (OpW.fieldAddr field_52_4 e44 ?_)
    obtain ⟨u_, h1, h2, h⟩ := h
    obtain ⟨w55, hw55_⟩ : ∃ w_, w_ = w54.setCell (Addr.add ⟨b1, 0, none⟩ 8) (str p2) := ⟨_, rfl⟩
    have h := h w55 hw55_
    refine RL.opN trivial (OpW.store1E (v := str p2) size_9 rfl rfl rfl h1 h2 hw55_ ?_)
    refine RL.nil ?_
    refine CW.seq ?_
    refine CW.region ?_
    obtain ⟨x56, h1, h2, h⟩ := h
    refine RL.opS trivial rfl (OpW.loadA agg_52 e44 h1 h2 ?_)
    obtain ⟨g_, o_, e_, cur_, ha_, h1, h2, h3, h4, h⟩ := h
    obtain ⟨w57, hw57_⟩ : ∃ w_, w_ = w55.setRow g_ (cur_.toList.take o_ ++ x56 ++ cur_.toList.drop (o_ + List.length x56)).toArray := ⟨_, rfl⟩
    have h := h w57 hw57_
    refine RL.opN trivial (OpW.storeAE (cs := x56) size_52 e45 rfl ha_ h1 h2 h3 h4 hw57_ ?_)
    refine RL.opS trivial rfl (OpW.assign (v := .int .i64 0) rfl ?_)
    refine RL.nil ?_
    refine CW.ret ?_
    obtain ⟨x58, hc1, hc2, h⟩ := h
    exact ret_intro (res2c rfl agg_52 e45 hc1 hc2 rfl) ⟨(x58, 0), rfl, h⟩
  ·clear hk60
   refine CW.seq ?_
   refine CW.region ?_
   refine RL.opS trivial rfl (OpW.move (v := .int .i64 x10.2) rfl ?_)
   refine RL.opS trivial rfl (OpW.bin (k := .i64) (a := x10.2) (b := 0) (v := .bool (decide (x10.2 = 0))) rfl rfl rfl ?_)
   refine RL.nil ?_
   obtain ⟨ha, hc⟩ := h
   refine CW.cond (b := (decide (x10.2 = 0))) rfl (fun hb34 => ?_) (fun hb34 => ?_)
   ·have h := ha hb34; clear ha hc
    refine CW.region ?_
    obtain ⟨x35, h1, h2, h⟩ := h
    refine RL.opS trivial rfl (OpW.loadA agg_49 e_8 h1 h2 ?_)
    refine RL.opS trivial rfl (OpW.callR (al := [aggv x35]) Try.func65 fb_65 fn_65 rfl h (fun x36 w37 h => ?_))
    refine RL.opS trivial rfl (OpW.move (v := .tuple #[aggv x36.1, .int .i64 x36.2]) rfl ?_)
    refine RL.opS trivial rfl (OpW.extract (v := aggv x36.1) rfl rfl ?_)
    refine RL.opS trivial rfl (OpW.extract (v := .int .i64 x36.2) rfl rfl ?_)
    obtain ⟨g_, o_, e_, cur_, ha_, h1, h2, h3, h4, h⟩ := h
    obtain ⟨w38, hw38_⟩ : ∃ w_, w_ = w37.setRow g_ (cur_.toList.take o_ ++ x36.1 ++ cur_.toList.drop (o_ + List.length x36.1)).toArray := ⟨_, rfl⟩
    have h := h w38 hw38_
    refine RL.opN trivial (OpW.storeAE (cs := x36.1) size_49 e_8 rfl ha_ h1 h2 h3 h4 hw38_ ?_)
    refine RL.opS trivial rfl (OpW.assign (v := .int .i64 x36.2) rfl ?_)
    refine RL.nil ?_
    exact ⟨x36.2, ⟨rfl, e_1, e_2, e_3, e_6, e_8⟩, h⟩
   ·have h := hc hb34; clear ha hc
    refine CW.skip ?_
    exact ⟨x10.2, ⟨rfl, e_1, e_2, e_3, e_6, e_8⟩, h⟩
 intro hD_12_13_17
 refine DL.state (fun ρ_ w61 => ∃ (x9 : List UInt8) (x10 : (List Value × Int)), Ext w5 w61 ∧ F15 () x9 w61 ∧ F21 x9 x10 w61 ∧ ρ_ 1 = .int .u64 p1 ∧ ρ_ 2 = str p2 ∧ ρ_ 3 = .pointer (some ⟨b1, 0, none⟩) ∧ ρ_ 6 = .pointer (some ⟨b3, 0, none⟩) ∧ ρ_ 25 = aggv x10.1 ∧ ρ_ 26 = .int .i64 x10.2) 3 #[T,T,T,T,T,T,T,T,T,T,T,T,T,T,T,T,T,F,F,F] ?_ ?_
 ·rintro ρ_ w61 ⟨x9, x10, hx_1, f_12, f_13, e_1, e_2, e_3, e_6, e_25, e_26⟩
  refine DL.branch [17] (by kernel_rfl) rfl ?_
  refine all_cons ?_ (all_nil)
  ·clear h
   have h := run_17 () w61 hx_1 trivial
   obtain ⟨b62, hb62_⟩ : ∃ b_, b_ = w61.heap.size := ⟨_, rfl⟩
   obtain ⟨w63, hw63_⟩ : ∃ w_, w_ = w61.alloc (.cells (List.toArray [Value.slice none 0 0, Value.slice none 0 0, Value.slice none 0 0, Value.int .i64 0, Value.bool false]) 49) := ⟨_, rfl⟩
   have h := h b62 w63 hb62_ hw63_
   refine DLop.execS (listed' := #[T,T,T,T,T,T,T,T,T,T,T,T,T,T,T,T,T,T,F,F]) rfl rfl trivial rfl (OpW.allocE (b := b62) zero_49 hb62_ hw63_ ?_)
   obtain ⟨hx64, f65⟩ := h
   refine ⟨(fun _ hS_ => Ext.trans hS_ hx64), ?_⟩
   exact hD_12_13_17 _ _ ⟨x9, x10, ⟨b62, 0, none⟩, Ext.trans hx_1 hx64, st_12 _ _ _ _ hx64 f_12, st_13 _ _ _ _ hx64 f_13, f65, e_1, e_2, e_3, e_6, rfl, e_25, e_26⟩

 intro hD_12_13
 refine DL.state (fun ρ_ w66 => ∃ (x9 : List UInt8) (x11 : Addr), Ext w5 w66 ∧ F15 () x9 w66 ∧ F27 () x11 w66 ∧ ρ_ 1 = .int .u64 p1 ∧ ρ_ 2 = str p2 ∧ ρ_ 3 = .pointer (some ⟨b1, 0, none⟩) ∧ ρ_ 6 = .pointer (some ⟨b3, 0, none⟩) ∧ ρ_ 8 = .pointer (some x11) ∧ ρ_ 12 = aggv x7 ∧ ρ_ 18 = .int .i64 (IntKind.i64.wrap (x8 + (IntKind.i64.wrap (Int.tmod p1 2)))) ∧ ρ_ 23 = str x9) 6 #[T,T,T,T,T,T,T,T,T,T,T,T,T,F,F,F,F,T,F,F] ?_ ?_
 ·rintro ρ_ w66 ⟨x9, x11, hx_1, f_12, f_17, e_1, e_2, e_3, e_6, e_8, e_12, e_18, e_23⟩
  refine DL.branch [13] (by kernel_rfl) rfl ?_
  refine all_cons ?_ (all_nil)
  ·clear h
   have h := run_13 x9 w66 hx_1 f_12
   refine DLop.execS (listed' := #[T,T,T,T,T,T,T,T,T,T,T,T,T,T,F,F,F,T,F,F]) rfl rfl trivial rfl (OpW.callR (al := [aggv x7, .int .i64 (IntKind.i64.wrap (x8 + (IntKind.i64.wrap (Int.tmod p1 2)))), str x9]) Try.func42 fb_42 fn_42 (by simp only [List.map_cons, List.map_nil, ev, upd, Nat.beq, cond_false, cond_true, e_12, e_18, e_23]) h (fun x67 w68 h => ?_))
   obtain ⟨hx69, f70⟩ := h
   refine ⟨(fun h_ => absurd h_ (by decide)), ?_⟩
   refine DL.takeP (listed' := #[T,T,T,T,T,T,T,T,T,T,T,T,T,T,T,F,F,T,F,F]) (v := .tuple #[aggv x67.1, .int .i64 x67.2]) 14 rfl rfl (by kernel_rfl) rfl trivial rfl (fun w_ K_ h_ => OpW.move (v := .tuple #[aggv x67.1, .int .i64 x67.2]) rfl h_) ?_
   refine DL.takeP (listed' := #[T,T,T,T,T,T,T,T,T,T,T,T,T,T,T,T,F,T,F,F]) (v := aggv x67.1) 15 rfl rfl (by kernel_rfl) rfl trivial rfl (fun w_ K_ h_ => OpW.extract (v := aggv x67.1) rfl rfl h_) ?_
   refine DL.takeP (listed' := #[T,T,T,T,T,T,T,T,T,T,T,T,T,T,T,T,T,T,F,F]) (v := .int .i64 x67.2) 16 rfl rfl (by kernel_rfl) rfl trivial rfl (fun w_ K_ h_ => OpW.extract (v := .int .i64 x67.2) rfl rfl h_) ?_
   exact hD_12_13_17 _ _ ⟨x9, (x67.1, x67.2), x11, Ext.trans hx_1 hx69, st_12 _ _ _ _ hx69 f_12, f70, st_17 _ _ _ _ hx69 f_17, e_1, e_2, e_3, e_6, e_8, rfl, rfl⟩

 intro hD_12_17
 refine DL.state (fun ρ_ w71 => ∃ (x9 : List UInt8), Ext w5 w71 ∧ F15 () x9 w71 ∧ ρ_ 1 = .int .u64 p1 ∧ ρ_ 2 = str p2 ∧ ρ_ 3 = .pointer (some ⟨b1, 0, none⟩) ∧ ρ_ 6 = .pointer (some ⟨b3, 0, none⟩) ∧ ρ_ 12 = aggv x7 ∧ ρ_ 18 = .int .i64 (IntKind.i64.wrap (x8 + (IntKind.i64.wrap (Int.tmod p1 2)))) ∧ ρ_ 23 = str x9) 7 #[T,T,T,T,T,T,T,T,T,T,T,T,T,F,F,F,F,F,F,F] ?_ ?_
 ·rintro ρ_ w71 ⟨x9, hx_1, f_12, e_1, e_2, e_3, e_6, e_12, e_18, e_23⟩
  refine DL.branch [13, 17] (by kernel_rfl) rfl ?_
  refine all_cons ?_ (all_cons ?_ (all_nil))
  ·clear h
   have h := run_13 x9 w71 hx_1 f_12
   refine DLop.execS (listed' := #[T,T,T,T,T,T,T,T,T,T,T,T,T,T,F,F,F,F,F,F]) rfl rfl trivial rfl (OpW.callR (al := [aggv x7, .int .i64 (IntKind.i64.wrap (x8 + (IntKind.i64.wrap (Int.tmod p1 2)))), str x9]) Try.func42 fb_42 fn_42 (by simp only [List.map_cons, List.map_nil, ev, upd, Nat.beq, cond_false, cond_true, e_12, e_18, e_23]) h (fun x72 w73 h => ?_))
   obtain ⟨hx74, f75⟩ := h
   refine ⟨(fun h_ => absurd h_ (by decide)), ?_⟩
   refine DL.takeP (listed' := #[T,T,T,T,T,T,T,T,T,T,T,T,T,T,T,F,F,F,F,F]) (v := .tuple #[aggv x72.1, .int .i64 x72.2]) 14 rfl rfl (by kernel_rfl) rfl trivial rfl (fun w_ K_ h_ => OpW.move (v := .tuple #[aggv x72.1, .int .i64 x72.2]) rfl h_) ?_
   refine DL.takeP (listed' := #[T,T,T,T,T,T,T,T,T,T,T,T,T,T,T,T,F,F,F,F]) (v := aggv x72.1) 15 rfl rfl (by kernel_rfl) rfl trivial rfl (fun w_ K_ h_ => OpW.extract (v := aggv x72.1) rfl rfl h_) ?_
   refine DL.takeP (listed' := #[T,T,T,T,T,T,T,T,T,T,T,T,T,T,T,T,T,F,F,F]) (v := .int .i64 x72.2) 16 rfl rfl (by kernel_rfl) rfl trivial rfl (fun w_ K_ h_ => OpW.extract (v := .int .i64 x72.2) rfl rfl h_) ?_
   exact hD_12_13 _ _ ⟨x9, (x72.1, x72.2), Ext.trans hx_1 hx74, st_12 _ _ _ _ hx74 f_12, f75, e_1, e_2, e_3, e_6, rfl, rfl⟩
  ·clear h
   have h := run_17 () w71 hx_1 trivial
   obtain ⟨b76, hb76_⟩ : ∃ b_, b_ = w71.heap.size := ⟨_, rfl⟩
   obtain ⟨w77, hw77_⟩ : ∃ w_, w_ = w71.alloc (.cells (List.toArray [Value.slice none 0 0, Value.slice none 0 0, Value.slice none 0 0, Value.int .i64 0, Value.bool false]) 49) := ⟨_, rfl⟩
   have h := h b76 w77 hb76_ hw77_
   refine DLop.execS (listed' := #[T,T,T,T,T,T,T,T,T,T,T,T,T,F,F,F,F,T,F,F]) rfl rfl trivial rfl (OpW.allocE (b := b76) zero_49 hb76_ hw77_ ?_)
   obtain ⟨hx78, f79⟩ := h
   refine ⟨(fun _ hS_ => Ext.trans hS_ hx78), ?_⟩
   exact hD_12_17 _ _ ⟨x9, ⟨b76, 0, none⟩, Ext.trans hx_1 hx78, st_12 _ _ _ _ hx78 f_12, f79, e_1, e_2, e_3, e_6, rfl, e_12, e_18, e_23⟩

 intro hD_12
 refine DL.state (fun ρ_ w80 => ∃ (x11 : Addr), Ext w5 w80 ∧ F27 () x11 w80 ∧ ρ_ 1 = .int .u64 p1 ∧ ρ_ 2 = str p2 ∧ ρ_ 3 = .pointer (some ⟨b1, 0, none⟩) ∧ ρ_ 6 = .pointer (some ⟨b3, 0, none⟩) ∧ ρ_ 8 = .pointer (some x11) ∧ ρ_ 12 = aggv x7 ∧ ρ_ 18 = .int .i64 (IntKind.i64.wrap (x8 + (IntKind.i64.wrap (Int.tmod p1 2)))) ∧ ρ_ 19 = .int .u64 p1 ∧ ρ_ 22 = .int .u64 (IntKind.u64.wrap (p2.length : Int))) 7 #[T,T,T,T,T,T,T,T,T,T,T,T,F,F,F,F,F,T,F,F] ?_ ?_
 ·rintro ρ_ w80 ⟨x11, hx_1, f_17, e_1, e_2, e_3, e_6, e_8, e_12, e_18, e_19, e_22⟩
  refine DL.branch [12] (by kernel_rfl) rfl ?_
  refine all_cons ?_ (all_nil)
  ·clear h
   have h := run_12 () w80 hx_1 trivial
   refine DLop.execS (listed' := #[T,T,T,T,T,T,T,T,T,T,T,T,T,F,F,F,F,T,F,F]) rfl rfl trivial rfl (OpW.callR (al := [.int .u64 p1, .int .u64 (IntKind.u64.wrap (p2.length : Int))]) Try.func41 fb_41 fn_41 (by simp only [List.map_cons, List.map_nil, ev, upd, Nat.beq, cond_false, cond_true, e_19, e_22]) h (fun x81 w82 h => ?_))
   obtain ⟨hx83, f84⟩ := h
   refine ⟨(fun _ hS_ => Ext.trans hS_ hx83), ?_⟩
   exact hD_12_17 _ _ ⟨x81, x11, Ext.trans hx_1 hx83, f84, st_17 _ _ _ _ hx83 f_17, e_1, e_2, e_3, e_6, e_8, e_12, e_18, rfl⟩

 intro hD_17
 have hx_0 : Ext w5 w5 := Ext.refl _
 refine DL.branch [12, 17] (by kernel_rfl) rfl ?_
 refine all_cons ?_ (all_cons ?_ (all_nil))
 ·clear h
  have h := run_12 () w5 hx_0 trivial
  refine DLop.execS (listed' := #[T,T,T,T,T,T,T,T,T,T,T,T,T,F,F,F,F,F,F,F]) rfl rfl trivial rfl (OpW.callR (al := [.int .u64 p1, .int .u64 (IntKind.u64.wrap (p2.length : Int))]) Try.func41 fb_41 fn_41 rfl h (fun x85 w86 h => ?_))
  obtain ⟨hx87, f88⟩ := h
  refine ⟨(fun _ hS_ => Ext.trans hS_ hx87), ?_⟩
  exact hD_12 _ _ ⟨x85, Ext.trans hx_0 hx87, f88, rfl, rfl, rfl, rfl, rfl, rfl, rfl⟩
 ·clear h
  have h := run_17 () w5 hx_0 trivial
  obtain ⟨b89, hb89_⟩ : ∃ b_, b_ = w5.heap.size := ⟨_, rfl⟩
  obtain ⟨w90, hw90_⟩ : ∃ w_, w_ = w5.alloc (.cells (List.toArray [Value.slice none 0 0, Value.slice none 0 0, Value.slice none 0 0, Value.int .i64 0, Value.bool false]) 49) := ⟨_, rfl⟩
  have h := h b89 w90 hb89_ hw90_
  refine DLop.execS (listed' := #[T,T,T,T,T,T,T,T,T,T,T,T,F,F,F,F,F,T,F,F]) rfl rfl trivial rfl (OpW.allocE (b := b89) zero_49 hb89_ hw90_ ?_)
  obtain ⟨hx91, f92⟩ := h
  refine ⟨(fun _ hS_ => Ext.trans hS_ hx91), ?_⟩
  exact hD_17 _ _ ⟨⟨b89, 0, none⟩, Ext.trans hx_0 hx91, f92, rfl, rfl, rfl, rfl, rfl, rfl, rfl, rfl, rfl⟩

end Go.Proofs.Ytagkcbbbdlmcjaa
end
section
/- The document's journal over the document's disk: a head, an emptying. -/
namespace Go.Proofs.Ytagkcbbbdlmcjaa
open Go.Lift Go.Lift.Disk Go.Lift.Crc Go.Lift.Wal Go.RowKit
theorem write_wf {D : Dk} (h : D.Wf) (hb : Bnd D 1) (i : Int) (b : List UInt8) : (D.write i b).1.Wf := by
 unfold Dk.write
 split
 ·exact h
 ·rename_i hw
  split
  ·exact h
  ·rename_i hl
   obtain ⟨_, h0, h1⟩ := why_zero (show D.why i = 0 by simpa using hw)
   exact strike_wf (put_wf h (by have := hb.2; omega) (by omega) (by omega)) (by have := hb.1; show D.changes < _; omega)
theorem flush_wf {D : Dk} (h : D.Wf) (hb : Bnd D 1) : D.flush.1.Wf := by
 unfold Dk.flush
 split
 ·exact h
 ·have hs := strike_wf h (by have := hb.1; omega)
  split
  ·exact hs
  ·refine ⟨by show 0 < (flushL _ _).length; rw [flushL_len']; exact hs.pos, by show (flushL _ _).length ≤ _; rw [flushL_len']; exact hs.few, ?_, by simp, by simp, hs.keep, hs.flen, hs.ch⟩
   show WfB (flushL D.strike.1.bl D.strike.1.pend)
   have key : ∀ (ps : List (Nat × List UInt8)) (l : List Bl), WfB l → (∀ p ∈ ps, p.1 < l.length ∧ p.2.length = 512) → WfB (flushL l ps) := by
    intro ps
    induction ps with
    | nil => exact fun l h _ => h
    | cons p ps ih =>
     intro l h hp
     have hp0 := hp p (by simp)
     exact ih (setSure l p.1 p.2) (setSure_wf h hp0.1 hp0.2) fun q hq => by rw [setSure_len]; exact hp q (by simp [hq])
   exact key _ _ hs.bl hs.pend
theorem headW_wf {D : Dk} (h : D.Wf) (hb : Bnd D 2) (frm seq n : Nat) : (headW D frm seq n).1.Wf := by
 unfold headW
 have hw := write_wf h (hb.mono (by decide)) ((frm + seq % 2 : Nat) : Int) (headB seq n)
 split
 ·exact flush_wf hw (hb.write _ _)
 ·exact hw
abbrev jc (cs : List Value) (frm room seq : Nat) (data : List UInt8) (count : Nat) (br : Bool) : List Value :=
 cs ++ [.int .i64 (frm : Int), .int .i64 (room : Int), .int .u64 (seq : Int), str data, .int .i64 (count : Int), .bool br]
/-- the document's journal in a struct's cells -/
def JAt (w : World) (B : Nat → Prop) (xs : List Value) (D : Dk) (frm room : Nat) (J : Lg) : Prop := ∃ cs, xs = jc cs frm room J.seq J.data J.count J.broken ∧ RAt w B cs D
abbrev jz : List Value := [Value.slice none 0 0, Value.slice none 0 0, Value.slice none 0 0, Value.int .i64 0, Value.bool false, Value.int .i64 0, Value.int .i64 0, Value.int .u64 0, str [], Value.int .i64 0, Value.bool false]
section
variable {w w' : World} {B : Nat → Prop} {xs cs : List Value} {D : Dk} {frm room : Nat} {J : Lg}
theorem jc_len {seq : Nat} {data : List UInt8} {count : Nat} {br : Bool} (h : cs.length = 5) : (jc cs frm room seq data count br).length = 11 := by simp [h]
theorem jc_one {seq : Nat} {data : List UInt8} {count : Nat} {br : Bool} (h : ∀ v ∈ cs, v.oneCell' = true) : ∀ v ∈ jc cs frm room seq data count br, v.oneCell' = true := by
 intro v hv
 rcases List.mem_append.1 hv with hv | hv
 ·exact h v hv
 ·simp only [List.mem_cons, List.not_mem_nil, or_false] at hv
  rcases hv with rfl | rfl | rfl | rfl | rfl | rfl <;> rfl
theorem JAt.len (h : JAt w B xs D frm room J) : xs.length = 11 := by
 obtain ⟨cs, rfl, h⟩ := h
 exact jc_len h.len
theorem JAt.one (h : JAt w B xs D frm room J) : ∀ v ∈ xs, v.oneCell' = true := by
 obtain ⟨cs, rfl, h⟩ := h
 exact jc_one h.one
theorem JAt.ext (h : JAt w B xs D frm room J) (hx : Ext w w') : JAt w' B xs D frm room J := by
 obtain ⟨cs, e, h⟩ := h
 exact ⟨cs, e, h.ext hx⟩
theorem JAt.foot {X : Nat → Prop} (h : JAt w B xs D frm room J) (hf : Fr X w w') (hX : ∀ k, B k → ¬ X k) : JAt w' B xs D frm room J := by
 obtain ⟨cs, e, h⟩ := h
 exact ⟨cs, e, h.foot hf hX⟩
theorem JAt.mono {B' : Nat → Prop} (h : JAt w B xs D frm room J) (hm : ∀ k, k < w.heap.size → B k → B' k) : JAt w B' xs D frm room J := by
 obtain ⟨cs, e, h⟩ := h
 exact ⟨cs, e, h.mono hm⟩
/-- the cell of a number -/
theorem jc_cell {seq : Nat} {data : List UInt8} {count : Nat} {br : Bool} {g : Nat} (hl : cs.length = 5) (hB : Blk w g 52 (jc cs frm room seq data count br)) :
  w.cell? ⟨g, 5, none⟩ = some (.int .i64 (frm : Int)) ∧ w.cell? ⟨g, 6, none⟩ = some (.int .i64 (room : Int)) ∧ w.cell? ⟨g, 7, none⟩ = some (.int .u64 (seq : Int)) ∧ w.cell? ⟨g, 8, none⟩ = some (str data) ∧ w.cell? ⟨g, 9, none⟩ = some (.int .i64 (count : Int)) ∧ w.cell? ⟨g, 10, none⟩ = some (.bool br) := by
 obtain ⟨a, b, c, d, e, rfl⟩ := list5 hl
 exact ⟨hB.cell rfl, hB.cell rfl, hB.cell rfl, hB.cell rfl, hB.cell rfl, hB.cell rfl⟩
theorem jc_set {seq : Nat} {data : List UInt8} {count : Nat} {br : Bool} (hl : cs.length = 5) (seq' : Nat) (data' : List UInt8) (count' : Nat) (br' : Bool) :
  (jc cs frm room seq data count br).set 7 (.int .u64 (seq' : Int)) = jc cs frm room seq' data count br ∧ (jc cs frm room seq data count br).set 8 (str data') = jc cs frm room seq data' count br ∧
   (jc cs frm room seq data count br).set 9 (.int .i64 (count' : Int)) = jc cs frm room seq data count' br ∧ (jc cs frm room seq data count br).set 10 (.bool br') = jc cs frm room seq data count br' := by
 obtain ⟨a, b, c, d, e, rfl⟩ := list5 hl
 exact ⟨rfl, rfl, rfl, rfl⟩
theorem jc_disk {seq : Nat} {data : List UInt8} {count : Nat} {br : Bool} {cs' : List Value} (hl : cs.length = 5) (hl' : cs'.length = 5) : splice (jc cs frm room seq data count br) 0 cs' = jc cs' frm room seq data count br := by
 obtain ⟨a, b, c, d, e, rfl⟩ := list5 hl
 obtain ⟨a', b', c', d', e', rfl⟩ := list5 hl'
 rfl
theorem jc_at {seq : Nat} {data : List UInt8} {count : Nat} {br : Bool} {g : Nat} (hl : cs.length = 5) (hB : Blk w g 52 (jc cs frm room seq data count br)) : At w ⟨g, 0, none⟩ cs := by
 obtain ⟨a, b, c, d, e, rfl⟩ := list5 hl
 exact hB.at rfl
/-- an answer is put into its place -/
theorem ansJ {b1 b3 : Nat} {ys : List Value} {K : List Value → World → Prop} (hl : xs.length = 11) (ho : ∀ v ∈ xs, v.oneCell' = true) (hb1 : Blk w b1 52 xs) (hb3 : Blk w b3 52 ys) (hys : ys.length = 11)
  (hk : ∀ w', Fr (· = b3) w w' → Blk w' b3 52 xs → K xs w') : ldA 11 ⟨b1, 0, none⟩ w fun x => stA 11 ⟨b3, 0, none⟩ x w fun w' => ldA 11 ⟨b3, 0, none⟩ w' fun x' => K x' w' := by
 refine ⟨xs, hl, hb1.at (by rw [List.drop_zero, List.take_length]), ?_⟩
 refine stA_blk hb3 hl (by omega) ho fun w' hB' hf' => ?_
 have : splice ys 0 xs = xs := by
  unfold splice
  rw [List.take_zero, List.nil_append, List.drop_of_length_le (by omega), List.append_nil]
 rw [this] at hB'
 exact ⟨xs, hl, hB'.at (by rw [List.drop_zero, List.take_length]), hk w' hf' hB'⟩
end
def Lg.headed (J : Lg) (e : Int) (seq : Nat) (data : List UInt8) : Lg := if e = 0 then { J with seq := seq, data := data } else { J with broken := true }
theorem rhead_ok {w : World} {B : Nat → Prop} {xs : List Value} {D : Dk} {frm room : Nat} {J : Lg} (h : JAt w B xs D frm room J) (hwf : D.Wf) (hb : Bnd D 2) (hBn : ∀ k, w.heap.size ≤ k → B k) (hfrm : frm ≤ 4096) (seq : Nat) (hs : seq < 9223372036854775808)
  (data : List UInt8) (hd : data.length ≤ 1000000000) :
  Calls Try.prog 80 #[aggv xs, .int .u64 (seq : Int), str data] w (Ret r80 fun x w' => x.2 = (headW D frm seq data.length).2 ∧ JAt w' B x.1 (headW D frm seq data.length).1 frm room (Lg.headed J (headW D frm seq data.length).2 seq data) ∧ Ext w w') := by
 apply s80_calls
 intro b1 w2 hb1 hw2
 have hx2 : Ext w w2 := Ext.new hw2
 have hB2 : Blk w2 b1 52 xs := Blk.new hb1 hw2
 intro b3 w4 hb3 hw4
 have hx4 : Ext w2 w4 := Ext.new hw4
 have hR4 : Blk w4 b3 52 jz := Blk.new hb3 hw4
 have hB4 := hB2.ext hx4
 have hxw4 := hx2.trans hx4
 have h13 : b1 < b3 := by rw [hb3]; exact hB2.lt
 have hb3l := hR4.lt
 have hwb1 : w.heap.size ≤ b1 := by rw [hb1]; exact Nat.le_refl _
 have hwb3 : w.heap.size ≤ b3 := by rw [hb3]; exact hx2.size
 obtain ⟨cs, rfl, hA⟩ := h
 have hcl := hA.len
 obtain ⟨B', hB'⟩ : ∃ B' : Nat → Prop, B' = fun k => B k ∧ k ≠ b1 ∧ k ≠ b3 := ⟨_, rfl⟩
 have hA' : RAt w B' cs D := hA.mono fun k hk hb => by rw [hB']; exact ⟨hb, by omega, by omega⟩
 have hBn' : ∀ {v : World}, w4.heap.size ≤ v.heap.size → ∀ k, v.heap.size ≤ k → B' k := by
  intro v hv k hk
  rw [hB']
  exact ⟨hBn k (Nat.le_trans hxw4.size (Nat.le_trans hv hk)), by omega, by omega⟩
 have hBb1 : ∀ k, B' k → ¬ k = b1 := fun k hk => by rw [hB'] at hk; exact hk.2.1
 have hBb3 : ∀ k, B' k → ¬ k = b3 := fun k hk => by rw [hB'] at hk; exact hk.2.2
 have back : ∀ {v : World} {ys : List Value} {E : Dk} {M : Lg}, JAt v B' ys E frm room M → JAt v B ys E frm room M := fun hv => hv.mono fun k _ hk => by rw [hB'] at hk; exact hk.1
 intro w5 hw5
 have hx5 : Ext w4 w5 := by subst hw5; exact Ext.drew _
 obtain ⟨c5, c6, c7, c8, c9, c10⟩ := jc_cell hcl hB4
 refine ⟨cs, hcl, by rw [add_plain]; exact jc_at hcl hB4, (frm : Int), by rw [add_plain]; exact c5, ?_⟩
 refine ⟨fun _ x v => x = headB seq data.length, fun _ _ _ _ _ h => h, fun _ v hv _ => ?_, ?_⟩
 ·rw [wu64_eq (by omega) (by omega)]
  refine cR_of (rhead_bytes v seq data.length (by omega) (by omega)) ?_
  rintro x w' ⟨rfl, hx⟩
  exact ⟨hx, rfl⟩
 have e2 : IntKind.i64.wrap ((frm : Int) + IntKind.i64.wrap (Int.tmod (seq : Int) 2)) = ((frm + seq % 2 : Nat) : Int) := by
  rw [Int.tmod_eq_emod_of_nonneg (by omega), w64_eq (x := (seq : Int) % 2) (by omega) (by omega), w64_eq (by omega) (by omega)]; omega
 refine ⟨fun d x v => x.2 = (D.write ((frm + seq % 2 : Nat) : Int) d).2 ∧ RAt v B' x.1 (D.write ((frm + seq % 2 : Nat) : Int) d).1, fun _ _ _ _ hx h => ⟨h.1, h.2.ext hx⟩, fun d v hv _ => ?_, ?_⟩
 ·rw [e2]
  refine cR_of (rput_ok v cs D ((hA'.ext (hxw4.trans hx5)).ext hv) hwf (by have := hb.1; omega) (by have := hb.2; omega) (hBn' (Nat.le_trans hx5.size hv.size)) _ d) ?_
  rintro ⟨x, e⟩ w' ⟨h1, h2, h3⟩
  exact ⟨h3, h1, h2⟩
 refine ⟨fun _ x v => ∃ b, x = ⟨b, 0, none⟩ ∧ Blk v b 49 (rc nilSl nilSl nilSl 0 false) ∧ w5.heap.size ≤ b, fun _ _ _ _ hx ⟨b, h1, h2, h3⟩ => ⟨b, h1, h2.ext hx, h3⟩, fun _ v hv _ => ?_, ?_⟩
 ·intro b28 w29 hb28 hw29
  exact ⟨Ext.new hw29, b28, rfl, Blk.new hb28 hw29, by rw [hb28]; exact hv.size⟩
 rintro x9 ⟨c1, e1⟩ x11 w30 hx30 rfl ⟨he1, hA30⟩ ⟨b, rfl, hb30, hbw⟩
 simp only at he1 hA30
 subst he1
 have hs5 := hx5.size
 have hb1b : b1 ≠ b := by omega
 have hb3b : b3 ≠ b := by omega
 have hxw30 := (hxw4.trans hx5).trans hx30
 have hB30 := (hB4.ext hx5).ext hx30
 have hR30 := (hR4.ext hx5).ext hx30
 refine put_ans hA30 hb30 fun w32 hA32 hb32 hf32 => ?_
 have hwb : w.heap.size ≤ b := Nat.le_trans (hxw4.trans hx5).size hbw
 have hx32 : Ext w w32 := hf32.ext hxw30 fun k _ e => by rw [e]; exact hwb
 have hB32 := hB30.fr hf32 hb1b
 have hR32 := hR30.fr hf32 hb3b
 have hwf1 := write_wf hwf (hb.mono (by decide)) ((frm + seq % 2 : Nat) : Int) (headB seq data.length)
 have hbd1 := Bnd.write (k := 1) hb ((frm + seq % 2 : Nat) : Int) (headB seq data.length)
 unfold headW
 generalize D.write ((frm + seq % 2 : Nat) : Int) (headB seq data.length) = R at hA30 hA32 hwf1 hbd1 ⊢
 refine jn_of fun k1 hk1 => ?_
 have hs32 : w4.heap.size ≤ w32.heap.size := Nat.le_trans (hx5.trans hx30).size hf32.size
 have key : ∀ (S : Dk × Int) (c2 : List Value) (w' : World), (if R.2 = 0 then R.1.flush else R) = S → RAt w' B' c2 S.1 → Blk w' b 49 c2 → Blk w' b1 52 (jc cs frm room J.seq J.data J.count J.broken) → Blk w' b3 52 jz → Ext w w' → k1 S.2 w' := by
  intro S c2 w' hS hA2 hbb hB1 hB3 hxw'
  rw [hk1, hS]
  have hl2 := hA2.len
  refine ⟨c2, hl2, hbb.at (by rw [List.drop_zero, List.take_length]), ?_⟩
  rw [add_plain]
  refine stA_blk hB1 hl2 (by rw [jc_len hcl]; decide) hA2.one fun w48 hB48 hf48 => ?_
  rw [jc_disk hcl hl2] at hB48
  have hx48 : Ext w w48 := hf48.ext hxw' fun k _ e => by rw [e]; exact hwb1
  have hA48 := hA2.foot hf48 hBb1
  have hR48 := hB3.fr hf48 (by omega)
  have hfin : ∀ {v : World}, Fr (· = b3) w48 v → Ext w48 v ∨ True := fun _ => .inr trivial
  refine ⟨fun hne => ?_, fun he => ?_⟩
  ·have hne := nd_t hne
   show st1 _ _ _ _
   rw [add_plain]
   refine st1_blk hB48 (by rw [jc_len hl2]; decide) fun w50 hB50 hf50 => ?_
   have e10 := (jc_set (frm := frm) (room := room) (seq := J.seq) (data := J.data) (count := J.count) (br := J.broken) hl2 0 [] 0 true).2.2.2
   rw [Nat.zero_add, e10] at hB50
   have hx50 : Ext w w50 := hf50.ext hx48 fun k _ e => by rw [e]; exact hwb1
   have hA50 := hA48.foot hf50 hBb1
   refine ansJ (jc_len hl2) (jc_one hA50.one) hB50 (hR48.fr hf50 (by omega)) rfl fun w52 hf52 hB52 => ?_
   refine ⟨rfl, ?_, hf52.ext hx50 fun k _ e => by rw [e]; exact hwb3⟩
   unfold Lg.headed
   rw [if_neg hne]
   exact back ⟨c2, rfl, hA50.foot hf52 hBb3⟩
  ·have he := nd_f he
   show st1 _ _ _ _
   rw [add_plain]
   refine st1_blk hB48 (by rw [jc_len hl2]; decide) fun w54 hB54 hf54 => ?_
   have e7 := (jc_set (frm := frm) (room := room) (seq := J.seq) (data := J.data) (count := J.count) (br := J.broken) hl2 seq [] 0 true).1
   rw [Nat.zero_add, e7] at hB54
   have hx54 : Ext w w54 := hf54.ext hx48 fun k _ e => by rw [e]; exact hwb1
   have hA54 := hA48.foot hf54 hBb1
   show st1 _ _ _ _
   rw [add_plain]
   refine st1_blk hB54 (by rw [jc_len hl2]; decide) fun w55 hB55 hf55 => ?_
   have e8 := (jc_set (frm := frm) (room := room) (seq := seq) (data := J.data) (count := J.count) (br := J.broken) hl2 seq data 0 true).2.1
   rw [Nat.zero_add, e8] at hB55
   have hx55 : Ext w w55 := hf55.ext hx54 fun k _ e => by rw [e]; exact hwb1
   have hA55 := hA54.foot hf55 hBb1
   refine ansJ (jc_len hl2) (jc_one hA55.one) hB55 ((hR48.fr hf54 (by omega)).fr hf55 (by omega)) rfl fun w57 hf57 hB57 => ?_
   refine ⟨he.symm, ?_, hf57.ext hx55 fun k _ e => by rw [e]; exact hwb3⟩
   unfold Lg.headed
   rw [if_pos he]
   exact back ⟨c2, rfl, hA55.foot hf57 hBb3⟩
 refine ⟨fun h0 => ?_, fun h0 => ?_⟩
 ·have h0 := of_decide_eq_true h0
  refine ⟨c1, hA32.len, hb32.at (by rw [List.drop_zero, List.take_length]), ?_⟩
  refine cR_of (rflush_ok w32 c1 R.1 hA32 hwf1 (by have := hbd1.1; omega) (hBn' hs32)) ?_
  rintro ⟨c2, e2⟩ w37 ⟨he2, hA37, hx37⟩
  simp only at he2 hA37
  subst he2
  obtain ⟨s1, s2, s3, hc1, _⟩ := id hA32
  have hb37 := hb32.ext hx37
  rw [hc1] at hb37
  refine put_ans hA37 hb37 fun w38 hA38 hb38 hf38 => ?_
  exact key R.1.flush c2 w38 (if_pos h0) hA38 hb38 ((hB32.ext hx37).fr hf38 hb1b) ((hR32.ext hx37).fr hf38 hb3b) (hf38.ext (hx32.trans hx37) fun k _ e => by rw [e]; exact hwb)
 ·have h0 := of_decide_eq_false h0
  exact key R c1 w32 (if_neg h0) hA32 hb32 hB32 hR32 hx32
end Go.Proofs.Ytagkcbbbdlmcjaa
end
section
/- The typed readings of the functions, and that the program meets each: written by gen.py (a program of this session). -/
namespace Go.Proofs.Ytagkcbbbdlmcjaa
open Go.Lift
set_option maxRecDepth 100000 in
set_option maxHeartbeats 4000000 in
theorem s56_calls (K : List Value × Int → World → Prop) (p0 : List Value) (p1 : Sl) (w : World) (h : s56 K p0 p1 w) :
  Calls Try.prog 56 #[aggv p0, Sl.v p1] w (Ret r56 K) := by
 unfold s56 at h
 refine calls_of_CW (n := 129) Try.func56 rfl rfl rfl ?_
 refine CW.seq ?_
 refine CW.region ?_
 obtain ⟨b1, hb1_⟩ : ∃ b_, b_ = w.heap.size := ⟨_, rfl⟩
 obtain ⟨w2, hw2_⟩ : ∃ w_, w_ = w.alloc (.cells (List.toArray p0) 52) := ⟨_, rfl⟩
 have h := h b1 w2 hb1_ hw2_
 refine RL.opS trivial rfl (OpW.boxE (cs := p0) (rfl) hb1_ hw2_ ?_)
 obtain ⟨b3, hb3_⟩ : ∃ b_, b_ = w2.heap.size := ⟨_, rfl⟩
 obtain ⟨w4, hw4_⟩ : ∃ w_, w_ = w2.alloc (.cells (List.toArray [Value.slice none 0 0, Value.slice none 0 0, Value.slice none 0 0, Value.int .i64 0, Value.bool false, Value.int .i64 0, Value.int .i64 0, Value.int .u64 0, str [], Value.int .i64 0, Value.bool false]) 52) := ⟨_, rfl⟩
 have h := h b3 w4 hb3_ hw4_
 refine RL.opS trivial rfl (OpW.allocE (b := b3) zero_52 hb3_ hw4_ ?_)
 refine RL.opS trivial rfl (OpW.assign (v := .int .i64 0) rfl ?_)
 refine RL.nil ?_
 refine CW.seq ?_
 refine CW.seq ?_
 refine CW.region ?_
 refine RL.opS trivial rfl (OpW.fieldAddr field_52_6 rfl ?_)
 obtain ⟨x5, h1, h⟩ := h
 refine RL.opS trivial rfl (OpW.load1 (v := .bool x5) one_4 rfl h1 ?_)
 refine RL.nil ?_
 obtain ⟨ha, hc⟩ := h
 refine CW.cond (b := x5) rfl (fun hb6 => ?_) (fun hb6 => ?_)
 ·have h := ha hb6; clear ha hc
  refine CW.seq ?_
  refine CW.region ?_
  obtain ⟨x7, h1, h2, h⟩ := h
  refine RL.opS trivial rfl (OpW.loadA agg_52 rfl h1 h2 ?_)
  obtain ⟨g_, o_, e_, cur_, ha_, h1, h2, h3, h4, h⟩ := h
  obtain ⟨w8, hw8_⟩ : ∃ w_, w_ = w4.setRow g_ (cur_.toList.take o_ ++ x7 ++ cur_.toList.drop (o_ + List.length x7)).toArray := ⟨_, rfl⟩
  have h := h w8 hw8_
  refine RL.opN trivial (OpW.storeAE (cs := x7) size_52 rfl rfl ha_ h1 h2 h3 h4 hw8_ ?_)
  refine RL.opS trivial rfl (OpW.assign (v := .int .i64 3) rfl ?_)
  refine RL.nil ?_
  refine CW.ret ?_
  obtain ⟨x9, hc1, hc2, h⟩ := h
  exact ret_intro (res2c rfl agg_52 rfl hc1 hc2 rfl) ⟨(x9, 3), rfl, h⟩
 ·have h := hc hb6; clear ha hc
  refine CW.skip ?_
  refine CW.seq ?_
  refine CW.seq ?_
  refine CW.region ?_
  refine RL.opS trivial rfl (OpW.move (v := Sl.v p1) rfl ?_)
  refine RL.opS trivial rfl (OpW.len (s := p1) slice_45 rfl ?_)
  refine RL.opS trivial rfl (OpW.bin (k := .i64) (a := (p1.len : Int)) (b := 0) (v := .bool (decide ((p1.len : Int) = 0))) rfl rfl rfl ?_)
  refine RL.nil ?_
  obtain ⟨ha, hc⟩ := h
  refine CW.cond (b := (decide ((p1.len : Int) = 0))) rfl (fun hb10 => ?_) (fun hb10 => ?_)
  ·have h := ha hb10; clear ha hc
   refine CW.seq ?_
   refine CW.region ?_
   obtain ⟨x11, h1, h2, h⟩ := h
   refine RL.opS trivial rfl (OpW.loadA agg_52 rfl h1 h2 ?_)
   obtain ⟨g_, o_, e_, cur_, ha_, h1, h2, h3, h4, h⟩ := h
   obtain ⟨w12, hw12_⟩ : ∃ w_, w_ = w4.setRow g_ (cur_.toList.take o_ ++ x11 ++ cur_.toList.drop (o_ + List.length x11)).toArray := ⟨_, rfl⟩
   have h := h w12 hw12_
   refine RL.opN trivial (OpW.storeAE (cs := x11) size_52 rfl rfl ha_ h1 h2 h3 h4 hw12_ ?_)
   refine RL.opS trivial rfl (OpW.assign (v := .int .i64 0) rfl ?_)
   refine RL.nil ?_
   refine CW.ret ?_
   obtain ⟨x13, hc1, hc2, h⟩ := h
   exact ret_intro (res2c rfl agg_52 rfl hc1 hc2 rfl) ⟨(x13, 0), rfl, h⟩
  ·have h := hc hb10; clear ha hc
   refine CW.skip ?_
   refine CW.seq ?_
   refine CW.region ?_
   refine RL.opS trivial rfl (OpW.fieldAddr field_52_4 rfl ?_)
   obtain ⟨x14, h1, h⟩ := h
   refine RL.opS trivial rfl (OpW.load1 (v := str x14) one_9 rfl h1 ?_)
   refine RL.opS trivial rfl (OpW.assign (v := str x14) rfl ?_)
   refine RL.nil ?_
   refine CW.seq ?_
   refine CW.seq ?_
   refine CW.region ?_
   refine RL.opS trivial rfl (OpW.assign (v := .int .i64 0) rfl ?_)
   refine RL.nil ?_
   refine CW.block ?_
   obtain ⟨I160, mu161, hI, hs⟩ := h
   refine CW.loop (σ := List UInt8 × Int) (fun s15 ρ => ρ 6 = str s15.1 ∧ ρ 7 = .int .i64 s15.2 ∧ ρ 1 = Sl.v p1 ∧ ρ 2 = .pointer (some ⟨b1, 0, none⟩) ∧ ρ 4 = .pointer (some ⟨b3, 0, none⟩)) I160 mu161 (x14, 0) ⟨rfl, rfl, rfl, rfl, rfl⟩ hI ?_
   rintro s15 ρ w16 ⟨e18, e19, e20, e21, e22⟩ hI
   have h := hs s15 w16 hI
   clear hs hI
   refine CW.seq ?_
   refine CW.seq ?_
   refine CW.region ?_
   refine RL.opS trivial rfl (OpW.move (v := .int .i64 s15.2) e19 ?_)
   refine RL.opS trivial rfl (OpW.move (v := Sl.v p1) e20 ?_)
   refine RL.opS trivial rfl (OpW.len (s := p1) slice_45 rfl ?_)
   refine RL.opS trivial rfl (OpW.bin (k := .i64) (a := s15.2) (b := (p1.len : Int)) (v := .bool (decide (s15.2 < (p1.len : Int)))) rfl rfl rfl ?_)
   refine RL.opS trivial rfl (OpW.move (v := .bool (decide (s15.2 < (p1.len : Int)))) rfl ?_)
   refine jn_elim h ?_; clear h; intro k158 hk159 h
   refine RL.joinAt (A := Bool) 6 (fun s26 ρ => ρ 33 = .bool s26 ∧ ρ 1 = Sl.v p1 ∧ ρ 2 = .pointer (some ⟨b1, 0, none⟩) ∧ ρ 4 = .pointer (some ⟨b3, 0, none⟩) ∧ ρ 6 = str s15.1 ∧ ρ 7 = .int .i64 s15.2) k158 ?_ ?_
   ·rintro s26 ρ w27 ⟨e28, e29, e30, e31, e32, e33⟩ h
    subst hk159
    dsimp only [List.drop]
    refine RL.nil ?_
    obtain ⟨ha, hc⟩ := h
    refine CW.cond (b := s26) e28 (fun hb34 => ?_) (fun hb34 => ?_)
    ·have h := ha hb34; clear ha hc
     refine CW.skip ?_
     refine CW.seq ?_
     refine CW.block ?_
     refine CW.region ?_
     refine RL.opS trivial rfl (OpW.move (v := str s15.1) e32 ?_)
     refine RL.opS trivial rfl (OpW.move (v := Sl.v p1) e29 ?_)
     refine RL.opS trivial rfl (OpW.move (v := .int .i64 s15.2) e33 ?_)
     obtain ⟨a35_, a35, h1, h2, h3, h4, h⟩ := h
     refine RL.opS trivial rfl (OpW.indexE (a' := a35) slice_45 rfl rfl h1 h2 h3 h4 ?_)
     obtain ⟨x37, h1, h⟩ := h
     refine RL.opS trivial rfl (OpW.load1 (v := str x37) one_9 rfl h1 ?_)
     refine RL.opS trivial rfl (OpW.callR (al := [str x37]) Try.func18 fb_18 fn_18 rfl h (fun x38 w39 h => ?_))
     obtain ⟨hq_, h⟩ := h
     refine RL.opS trivial rfl (OpW.strAdd rfl rfl hq_ ?_)
     refine RL.opS trivial rfl (OpW.assign (v := str (s15.1 ++ x38)) rfl ?_)
     refine RL.nil ?_
     refine CW.region ?_
     refine RL.opS trivial rfl (OpW.move (v := .int .i64 s15.2) e33 ?_)
     refine RL.opS trivial rfl (OpW.bin (k := .i64) (a := s15.2) (b := 1) (v := .int .i64 (IntKind.i64.wrap (s15.2 + 1))) rfl rfl rfl ?_)
     refine RL.opS trivial rfl (OpW.assign (v := .int .i64 (IntKind.i64.wrap (s15.2 + 1))) rfl ?_)
     refine RL.nil ?_
     exact ⟨((s15.1 ++ x38), (IntKind.i64.wrap (s15.2 + 1))), ⟨rfl, rfl, e29, e30, e31⟩, h⟩
    ·have h := hc hb34; clear ha hc
     refine CW.exit ?_
     refine CW.seq ?_
     refine CW.seq ?_
     refine CW.region ?_
     refine RL.opS trivial rfl (OpW.move (v := str s15.1) e32 ?_)
     refine RL.opS trivial rfl (OpW.lenStr us_9 rfl ?_)
     refine RL.opS trivial rfl (OpW.fieldAddr field_52_2 e30 ?_)
     obtain ⟨x40, h1, h⟩ := h
     refine RL.opS trivial rfl (OpW.load1 (v := .int .i64 x40) one_3 rfl h1 ?_)
     refine RL.opS trivial rfl (OpW.bin (k := .i64) (a := (s15.1.length : Int)) (b := x40) (v := .bool (decide (x40 < (s15.1.length : Int)))) rfl rfl rfl ?_)
     refine RL.opS trivial rfl (OpW.move (v := .bool (decide (x40 < (s15.1.length : Int)))) rfl ?_)
     refine jn_elim h ?_; clear h; intro k156 hk157 h
     refine RL.joinAt (A := Bool) 4 (fun s44 ρ => ρ 52 = .bool s44 ∧ ρ 1 = Sl.v p1 ∧ ρ 2 = .pointer (some ⟨b1, 0, none⟩) ∧ ρ 4 = .pointer (some ⟨b3, 0, none⟩) ∧ ρ 6 = str s15.1) k156 ?_ ?_
     ·rintro s44 ρ w45 ⟨e46, e47, e48, e49, e50⟩ h
      subst hk157
      dsimp only [List.drop]
      refine RL.nil ?_
      obtain ⟨ha, hc⟩ := h
      refine CW.cond (b := s44) e46 (fun hb51 => ?_) (fun hb51 => ?_)
      ·have h := ha hb51; clear ha hc
       refine CW.seq ?_
       refine CW.region ?_
       obtain ⟨x52, h1, h2, h⟩ := h
       refine RL.opS trivial rfl (OpW.loadA agg_52 e48 h1 h2 ?_)
       obtain ⟨g_, o_, e_, cur_, ha_, h1, h2, h3, h4, h⟩ := h
       obtain ⟨w53, hw53_⟩ : ∃ w_, w_ = w45.setRow g_ (cur_.toList.take o_ ++ x52 ++ cur_.toList.drop (o_ + List.length x52)).toArray := ⟨_, rfl⟩
       have h := h w53 hw53_
       refine RL.opN trivial (OpW.storeAE (cs := x52) size_52 e49 rfl ha_ h1 h2 h3 h4 hw53_ ?_)
       refine RL.opS trivial rfl (OpW.assign (v := .int .i64 40) rfl ?_)
       refine RL.nil ?_
       refine CW.ret ?_
       obtain ⟨x54, hc1, hc2, h⟩ := h
       exact ret_intro (res2c rfl agg_52 e49 hc1 hc2 rfl) ⟨(x54, 40), rfl, h⟩
      ·have h := hc hb51; clear ha hc
       refine CW.skip ?_
       refine CW.seq ?_
       refine CW.region ?_
       refine RL.opS trivial rfl (OpW.move (v := str s15.1) e50 ?_)
       refine RL.opS trivial rfl (OpW.assign (v := str s15.1) rfl ?_)
       refine RL.nil ?_
       refine CW.seq ?_
       refine CW.block ?_
       obtain ⟨I154, mu155, hI, hs⟩ := h
       refine CW.loop (σ := List UInt8) (fun s55 ρ => ρ 8 = str s55 ∧ ρ 1 = Sl.v p1 ∧ ρ 2 = .pointer (some ⟨b1, 0, none⟩) ∧ ρ 4 = .pointer (some ⟨b3, 0, none⟩) ∧ ρ 6 = str s15.1) I154 mu155 s15.1 ⟨rfl, e47, e48, e49, e50⟩ hI ?_
       rintro s55 ρ w56 ⟨e58, e59, e60, e61, e62⟩ hI
       have h := hs s55 w56 hI
       clear hs hI
       refine CW.seq ?_
       refine CW.seq ?_
       refine CW.region ?_
       refine RL.opS trivial rfl (OpW.move (v := str s55) e58 ?_)
       refine RL.opS trivial rfl (OpW.lenStr us_9 rfl ?_)
       refine RL.opS trivial rfl (OpW.quo (a := (s55.length : Int)) (b := 512) (v := .int .i64 (Int.tmod (s55.length : Int) 512)) rfl rfl (by decide) rfl ?_)
       refine RL.opS trivial rfl (OpW.bin (k := .i64) (a := (Int.tmod (s55.length : Int) 512)) (b := 0) (v := .bool (!decide ((Int.tmod (s55.length : Int) 512) = 0))) rfl rfl rfl ?_)
       refine RL.nil ?_
       obtain ⟨ha, hc⟩ := h
       refine CW.cond (b := (!decide ((Int.tmod (s55.length : Int) 512) = 0))) rfl (fun hb63 => ?_) (fun hb63 => ?_)
       ·have h := ha hb63; clear ha hc
        refine CW.skip ?_
        refine CW.block ?_
        refine CW.region ?_
        refine RL.opS trivial rfl (OpW.move (v := str s55) e58 ?_)
        obtain ⟨hq_, h⟩ := h
        refine RL.opS trivial rfl (OpW.strAdd rfl rfl hq_ ?_)
        refine RL.opS trivial rfl (OpW.assign (v := str (s55 ++ [0])) rfl ?_)
        refine RL.nil ?_
        exact ⟨(s55 ++ [0]), ⟨rfl, e59, e60, e61, e62⟩, h⟩
       ·have h := hc hb63; clear ha hc
        refine CW.exit ?_
        refine CW.seq ?_
        refine CW.seq ?_
        refine CW.region ?_
        refine RL.opS trivial rfl (OpW.fieldAddr field_52_4 e60 ?_)
        obtain ⟨x64, h1, h⟩ := h
        refine RL.opS trivial rfl (OpW.load1 (v := str x64) one_9 rfl h1 ?_)
        refine RL.opS trivial rfl (OpW.lenStr us_9 rfl ?_)
        refine RL.opS trivial rfl (OpW.quo (a := (x64.length : Int)) (b := 512) (v := .int .i64 (IntKind.i64.wrap (Int.tdiv (x64.length : Int) 512))) rfl rfl (by decide) rfl ?_)
        refine RL.opS trivial rfl (OpW.assign (v := .int .i64 (IntKind.i64.wrap (Int.tdiv (x64.length : Int) 512))) rfl ?_)
        refine RL.nil ?_
        refine CW.block ?_
        obtain ⟨I152, mu153, hI, hs⟩ := h
        refine CW.loop (σ := Int) (fun s65 ρ => ρ 9 = .int .i64 s65 ∧ ρ 1 = Sl.v p1 ∧ ρ 2 = .pointer (some ⟨b1, 0, none⟩) ∧ ρ 4 = .pointer (some ⟨b3, 0, none⟩) ∧ ρ 6 = str s15.1 ∧ ρ 8 = str s55) I152 mu153 (IntKind.i64.wrap (Int.tdiv (x64.length : Int) 512)) ⟨rfl, e59, e60, e61, e62, e58⟩ hI ?_
        rintro s65 ρ w66 ⟨e68, e69, e70, e71, e72, e73⟩ hI
        have h := hs s65 w66 hI
        clear hs hI
        refine CW.seq ?_
        refine CW.seq ?_
        refine CW.region ?_
        refine RL.opS trivial rfl (OpW.move (v := .int .i64 s65) e68 ?_)
        refine RL.opS trivial rfl (OpW.move (v := str s55) e73 ?_)
        refine RL.opS trivial rfl (OpW.lenStr us_9 rfl ?_)
        refine RL.opS trivial rfl (OpW.quo (a := (s55.length : Int)) (b := 512) (v := .int .i64 (IntKind.i64.wrap (Int.tdiv (s55.length : Int) 512))) rfl rfl (by decide) rfl ?_)
        refine RL.opS trivial rfl (OpW.bin (k := .i64) (a := s65) (b := (IntKind.i64.wrap (Int.tdiv (s55.length : Int) 512))) (v := .bool (decide (s65 < (IntKind.i64.wrap (Int.tdiv (s55.length : Int) 512))))) rfl rfl rfl ?_)
        refine RL.nil ?_
        obtain ⟨ha, hc⟩ := h
        refine CW.cond (b := (decide (s65 < (IntKind.i64.wrap (Int.tdiv (s55.length : Int) 512))))) rfl (fun hb74 => ?_) (fun hb74 => ?_)
        ·have h := ha hb74; clear ha hc
         refine CW.skip ?_
         refine CW.seq ?_
         refine CW.block ?_
         refine CW.seq ?_
         obtain ⟨w75, hw75_⟩ : ∃ w_, w_ = w66.drew := ⟨_, rfl⟩
         have h := h w75 hw75_
         have hx76 : Ext w66 w75 := by rw [hw75_]; exact Ext.drew _
         refine CW.draws (m := 21) (listed := #[F,F,F,F,F,F,F,F,F,F,F,F,F,F,F,F,F,F,F,F,F]) mixed [0, 1, 2, 3, 4, 5, 6, 7, 8, 9, 10, 11, 12, 13, 15, 16, 17, 18, 20] (Ext w66) rfl rfl ?_
         rw [← hw75_]
         refine DL.takeP (listed' := #[T,F,F,F,F,F,F,F,F,F,F,F,F,F,F,F,F,F,F,F,F]) (v := .pointer (some (Addr.add ⟨b1, 0, none⟩ 0))) 0 rfl rfl (by kernel_rfl) rfl trivial rfl (fun w_ K_ h_ => OpW.fieldAddr (off := 0) field_52_0 e70 h_) ?_
         obtain ⟨x77, h1, h2, h⟩ := h
         refine DL.takeK (listed' := #[T,T,F,F,F,F,F,F,F,F,F,F,F,F,F,F,F,F,F,F,F]) (v := aggv x77) 1 rfl rfl (by kernel_rfl) (by kernel_rfl) rfl trivial rfl hx76 (fun w_ hS_ K_ h_ => OpW.loadA agg_49 rfl h1 (hS_.at h2) h_) ?_
         refine DL.takeP (listed' := #[T,T,T,F,F,F,F,F,F,F,F,F,F,F,F,F,F,F,F,F,F]) (v := .pointer (some (Addr.add ⟨b1, 0, none⟩ 5))) 2 rfl rfl (by kernel_rfl) rfl trivial rfl (fun w_ K_ h_ => OpW.fieldAddr field_52_1 e70 h_) ?_
         obtain ⟨x78, h1, h⟩ := h
         refine DL.takeK (listed' := #[T,T,T,T,F,F,F,F,F,F,F,F,F,F,F,F,F,F,F,F,F]) (v := .int .i64 x78) 3 rfl rfl (by kernel_rfl) (by kernel_rfl) rfl trivial rfl hx76 (fun w_ hS_ K_ h_ => OpW.load1 (v := .int .i64 x78) one_3 rfl (hS_.cell h1) h_) ?_
         refine DL.takeP (listed' := #[T,T,T,T,T,F,F,F,F,F,F,F,F,F,F,F,F,F,F,F,F]) (v := .int .i64 (IntKind.i64.wrap (x78 + 2))) 4 rfl rfl (by kernel_rfl) rfl trivial rfl (fun w_ K_ h_ => OpW.bin (k := .i64) (a := x78) (b := 2) (v := .int .i64 (IntKind.i64.wrap (x78 + 2))) rfl rfl rfl h_) ?_
         refine DL.takeP (listed' := #[T,T,T,T,T,T,F,F,F,F,F,F,F,F,F,F,F,F,F,F,F]) (v := .int .i64 s65) 5 rfl rfl (by kernel_rfl) rfl trivial rfl (fun w_ K_ h_ => OpW.move (v := .int .i64 s65) e68 h_) ?_
         refine DL.takeP (listed' := #[T,T,T,T,T,T,T,F,F,F,F,F,F,F,F,F,F,F,F,F,F]) (v := .int .i64 (IntKind.i64.wrap ((IntKind.i64.wrap (x78 + 2)) + s65))) 6 rfl rfl (by kernel_rfl) rfl trivial rfl (fun w_ K_ h_ => OpW.bin (k := .i64) (a := (IntKind.i64.wrap (x78 + 2))) (b := s65) (v := .int .i64 (IntKind.i64.wrap ((IntKind.i64.wrap (x78 + 2)) + s65))) rfl rfl rfl h_) ?_
         refine DL.takeP (listed' := #[T,T,T,T,T,T,T,T,F,F,F,F,F,F,F,F,F,F,F,F,F]) (v := str s55) 7 rfl rfl (by kernel_rfl) rfl trivial rfl (fun w_ K_ h_ => OpW.move (v := str s55) e73 h_) ?_
         refine DL.takeP (listed' := #[T,T,T,T,T,T,T,T,T,F,F,F,F,F,F,F,F,F,F,F,F]) (v := .int .i64 s65) 8 rfl rfl (by kernel_rfl) rfl trivial rfl (fun w_ K_ h_ => OpW.move (v := .int .i64 s65) e68 h_) ?_
         refine DL.takeP (listed' := #[T,T,T,T,T,T,T,T,T,T,F,F,F,F,F,F,F,F,F,F,F]) (v := .int .i64 (IntKind.i64.wrap (s65 * 512))) 9 rfl rfl (by kernel_rfl) rfl trivial rfl (fun w_ K_ h_ => OpW.bin (k := .i64) (a := s65) (b := 512) (v := .int .i64 (IntKind.i64.wrap (s65 * 512))) rfl rfl rfl h_) ?_
         refine DL.takeP (listed' := #[T,T,T,T,T,T,T,T,T,T,T,F,F,F,F,F,F,F,F,F,F]) (v := .int .i64 s65) 10 rfl rfl (by kernel_rfl) rfl trivial rfl (fun w_ K_ h_ => OpW.move (v := .int .i64 s65) e68 h_) ?_
         refine DL.takeP (listed' := #[T,T,T,T,T,T,T,T,T,T,T,T,F,F,F,F,F,F,F,F,F]) (v := .int .i64 (IntKind.i64.wrap (s65 + 1))) 11 rfl rfl (by kernel_rfl) rfl trivial rfl (fun w_ K_ h_ => OpW.bin (k := .i64) (a := s65) (b := 1) (v := .int .i64 (IntKind.i64.wrap (s65 + 1))) rfl rfl rfl h_) ?_
         refine DL.takeP (listed' := #[T,T,T,T,T,T,T,T,T,T,T,T,T,F,F,F,F,F,F,F,F]) (v := .int .i64 (IntKind.i64.wrap ((IntKind.i64.wrap (s65 + 1)) * 512))) 12 rfl rfl (by kernel_rfl) rfl trivial rfl (fun w_ K_ h_ => OpW.bin (k := .i64) (a := (IntKind.i64.wrap (s65 + 1))) (b := 512) (v := .int .i64 (IntKind.i64.wrap ((IntKind.i64.wrap (s65 + 1)) * 512))) rfl rfl rfl h_) ?_
         obtain ⟨⟨h1, h2, h3⟩, h⟩ := h
         refine DL.takeP (listed' := #[T,T,T,T,T,T,T,T,T,T,T,T,T,T,F,F,F,F,F,F,F]) (v := str ((s55.take (Int.toNat (IntKind.i64.wrap ((IntKind.i64.wrap (s65 + 1)) * 512)))).drop (Int.toNat (IntKind.i64.wrap (s65 * 512))))) 13 rfl rfl (by kernel_rfl) rfl trivial rfl (fun w_ K_ h_ => OpW.sliceStr (l := (IntKind.i64.wrap (s65 * 512))) (h := (IntKind.i64.wrap ((IntKind.i64.wrap (s65 + 1)) * 512))) str_9 rfl ⟨_, rfl⟩ ⟨_, rfl⟩ h1 h2 h3 h_) ?_
         obtain ⟨F84, st_14, run_14, h⟩ := h
         obtain ⟨F90, st_18, run_18, h⟩ := h
         refine DL.state (fun ρ_ w93 => ∃ (x79 : (List Value × Int)) (x80 : Addr), Ext w75 w93 ∧ F84 () x79 w93 ∧ F90 () x80 w93 ∧ ρ_ 1 = Sl.v p1 ∧ ρ_ 2 = .pointer (some ⟨b1, 0, none⟩) ∧ ρ_ 4 = .pointer (some ⟨b3, 0, none⟩) ∧ ρ_ 6 = str s15.1 ∧ ρ_ 8 = str s55 ∧ ρ_ 9 = .int .i64 s65 ∧ ρ_ 10 = .pointer (some x80) ∧ ρ_ 88 = aggv x79.1 ∧ ρ_ 89 = .int .i64 x79.2) 2 #[T,T,T,T,T,T,T,T,T,T,T,T,T,T,T,T,T,T,T,F,F] ?_ ?_
         ·rintro ρ_ w93 ⟨x79, x80, hx_1, f_14, f_18, e_1, e_2, e_4, e_6, e_8, e_9, e_10, e_88, e_89⟩
          have h := h x79 x80 w93 hx_1 f_14 f_18
          have hx94 := Ext.trans hx76 hx_1
          obtain ⟨g_, o_, e_, cur_, ha_, h1, h2, h3, h4, h⟩ := h
          obtain ⟨w95, hw95_⟩ : ∃ w_, w_ = w93.setRow g_ (cur_.toList.take o_ ++ x79.1 ++ cur_.toList.drop (o_ + List.length x79.1)).toArray := ⟨_, rfl⟩
          have h := h w95 hw95_
          refine DL.execN (listed' := #[T,T,T,T,T,T,T,T,T,T,T,T,T,T,T,T,T,T,T,T,F]) 19 rfl (by kernel_rfl) rfl trivial (OpW.storeAE (cs := x79.1) size_49 e_10 e_88 ha_ h1 h2 h3 h4 hw95_ ?_)
          refine ⟨(fun h_ => absurd h_ (by decide)), ?_⟩
          refine DL.takeP (listed' := #[T,T,T,T,T,T,T,T,T,T,T,T,T,T,T,T,T,T,T,T,T]) (v := .int .i64 x79.2) 20 rfl rfl (by kernel_rfl) rfl trivial rfl (fun w_ K_ h_ => OpW.assign (v := .int .i64 x79.2) e_89 h_) ?_
          refine DL.done (by kernel_rfl) ?_
          refine CW.seq ?_
          refine CW.region ?_
          obtain ⟨x96, h1, h2, h⟩ := h
          refine RL.opS trivial rfl (OpW.loadA agg_49 e_10 h1 h2 ?_)
          refine RL.opS trivial rfl (OpW.fieldAddr (off := 0) field_52_0 e_2 ?_)
          obtain ⟨g_, o_, e_, cur_, ha_, h1, h2, h3, h4, h⟩ := h
          obtain ⟨w97, hw97_⟩ : ∃ w_, w_ = w95.setRow g_ (cur_.toList.take o_ ++ x96 ++ cur_.toList.drop (o_ + List.length x96)).toArray := ⟨_, rfl⟩
          have h := h w97 hw97_
          refine RL.opN trivial (OpW.storeAE (cs := x96) size_49 rfl rfl ha_ h1 h2 h3 h4 hw97_ ?_)
          refine RL.nil ?_
          refine CW.seq ?_
          refine CW.region ?_
          refine RL.opS trivial rfl (OpW.move (v := .int .i64 x79.2) rfl ?_)
          refine RL.opS trivial rfl (OpW.bin (k := .i64) (a := x79.2) (b := 0) (v := .bool (!decide (x79.2 = 0))) rfl rfl rfl ?_)
          refine RL.nil ?_
          obtain ⟨ha, hc⟩ := h
          refine CW.cond (b := (!decide (x79.2 = 0))) rfl (fun hb98 => ?_) (fun hb98 => ?_)
          ·have h := ha hb98; clear ha hc
           refine CW.seq ?_
           refine CW.region ?_
           refine RL.opS trivial rfl (OpW.fieldAddr field_52_6 e_2 ?_)
           obtain ⟨u_, h1, h2, h⟩ := h
           obtain ⟨w99, hw99_⟩ : ∃ w_, w_ = w97.setCell (Addr.add ⟨b1, 0, none⟩ 10) (.bool true) := ⟨_, rfl⟩
           have h := h w99 hw99_
           refine RL.opN trivial (OpW.store1E (v := .bool true) size_4 rfl rfl rfl h1 h2 hw99_ ?_)
           refine RL.nil ?_
           refine CW.seq ?_
           refine CW.region ?_
           obtain ⟨x100, h1, h2, h⟩ := h
           refine RL.opS trivial rfl (OpW.loadA agg_52 e_2 h1 h2 ?_)
           refine RL.opS trivial rfl (OpW.move (v := .int .i64 x79.2) rfl ?_)
           obtain ⟨g_, o_, e_, cur_, ha_, h1, h2, h3, h4, h⟩ := h
           obtain ⟨w101, hw101_⟩ : ∃ w_, w_ = w99.setRow g_ (cur_.toList.take o_ ++ x100 ++ cur_.toList.drop (o_ + List.length x100)).toArray := ⟨_, rfl⟩
           have h := h w101 hw101_
           refine RL.opN trivial (OpW.storeAE (cs := x100) size_52 e_4 rfl ha_ h1 h2 h3 h4 hw101_ ?_)
           refine RL.opS trivial rfl (OpW.assign (v := .int .i64 x79.2) rfl ?_)
           refine RL.nil ?_
           refine CW.ret ?_
           obtain ⟨x102, hc1, hc2, h⟩ := h
           exact ret_intro (res2c rfl agg_52 e_4 hc1 hc2 rfl) ⟨(x102, x79.2), rfl, h⟩
          ·have h := hc hb98; clear ha hc
           refine CW.skip ?_
           refine CW.region ?_
           refine RL.opS trivial rfl (OpW.move (v := .int .i64 s65) e_9 ?_)
           refine RL.opS trivial rfl (OpW.bin (k := .i64) (a := s65) (b := 1) (v := .int .i64 (IntKind.i64.wrap (s65 + 1))) rfl rfl rfl ?_)
           refine RL.opS trivial rfl (OpW.assign (v := .int .i64 (IntKind.i64.wrap (s65 + 1))) rfl ?_)
           refine RL.nil ?_
           exact ⟨(IntKind.i64.wrap (s65 + 1)), ⟨rfl, e_1, e_2, e_4, e_6, e_8⟩, h⟩
         intro hD_14_18
         refine DL.state (fun ρ_ w103 => ∃ (x79 : (List Value × Int)), Ext w75 w103 ∧ F84 () x79 w103 ∧ ρ_ 1 = Sl.v p1 ∧ ρ_ 2 = .pointer (some ⟨b1, 0, none⟩) ∧ ρ_ 4 = .pointer (some ⟨b3, 0, none⟩) ∧ ρ_ 6 = str s15.1 ∧ ρ_ 8 = str s55 ∧ ρ_ 9 = .int .i64 s65 ∧ ρ_ 88 = aggv x79.1 ∧ ρ_ 89 = .int .i64 x79.2) 3 #[T,T,T,T,T,T,T,T,T,T,T,T,T,T,T,T,T,T,F,F,F] ?_ ?_
         ·rintro ρ_ w103 ⟨x79, hx_1, f_14, e_1, e_2, e_4, e_6, e_8, e_9, e_88, e_89⟩
          refine DL.branch [18] (by kernel_rfl) rfl ?_
          refine all_cons ?_ (all_nil)
          ·clear h
           have h := run_18 () w103 hx_1 trivial
           obtain ⟨b104, hb104_⟩ : ∃ b_, b_ = w103.heap.size := ⟨_, rfl⟩
           obtain ⟨w105, hw105_⟩ : ∃ w_, w_ = w103.alloc (.cells (List.toArray [Value.slice none 0 0, Value.slice none 0 0, Value.slice none 0 0, Value.int .i64 0, Value.bool false]) 49) := ⟨_, rfl⟩
           have h := h b104 w105 hb104_ hw105_
           refine DLop.execS (listed' := #[T,T,T,T,T,T,T,T,T,T,T,T,T,T,T,T,T,T,T,F,F]) rfl rfl trivial rfl (OpW.allocE (b := b104) zero_49 hb104_ hw105_ ?_)
           obtain ⟨hx106, f107⟩ := h
           refine ⟨(fun _ hS_ => Ext.trans hS_ hx106), ?_⟩
           exact hD_14_18 _ _ ⟨x79, ⟨b104, 0, none⟩, Ext.trans hx_1 hx106, st_14 _ _ _ _ hx106 f_14, f107, e_1, e_2, e_4, e_6, e_8, e_9, rfl, e_88, e_89⟩

         intro hD_14
         refine DL.state (fun ρ_ w108 => ∃ (x80 : Addr), Ext w75 w108 ∧ F90 () x80 w108 ∧ ρ_ 1 = Sl.v p1 ∧ ρ_ 2 = .pointer (some ⟨b1, 0, none⟩) ∧ ρ_ 4 = .pointer (some ⟨b3, 0, none⟩) ∧ ρ_ 6 = str s15.1 ∧ ρ_ 8 = str s55 ∧ ρ_ 9 = .int .i64 s65 ∧ ρ_ 10 = .pointer (some x80) ∧ ρ_ 74 = aggv x77 ∧ ρ_ 79 = .int .i64 (IntKind.i64.wrap ((IntKind.i64.wrap (x78 + 2)) + s65)) ∧ ρ_ 86 = str ((s55.take (Int.toNat (IntKind.i64.wrap ((IntKind.i64.wrap (s65 + 1)) * 512)))).drop (Int.toNat (IntKind.i64.wrap (s65 * 512))))) 6 #[T,T,T,T,T,T,T,T,T,T,T,T,T,T,F,F,F,F,T,F,F] ?_ ?_
         ·rintro ρ_ w108 ⟨x80, hx_1, f_18, e_1, e_2, e_4, e_6, e_8, e_9, e_10, e_74, e_79, e_86⟩
          refine DL.branch [14] (by kernel_rfl) rfl ?_
          refine all_cons ?_ (all_nil)
          ·clear h
           have h := run_14 () w108 hx_1 trivial
           refine DLop.execS (listed' := #[T,T,T,T,T,T,T,T,T,T,T,T,T,T,T,F,F,F,T,F,F]) rfl rfl trivial rfl (OpW.callR (al := [aggv x77, .int .i64 (IntKind.i64.wrap ((IntKind.i64.wrap (x78 + 2)) + s65)), str ((s55.take (Int.toNat (IntKind.i64.wrap ((IntKind.i64.wrap (s65 + 1)) * 512)))).drop (Int.toNat (IntKind.i64.wrap (s65 * 512))))]) Try.func42 fb_42 fn_42 (by simp only [List.map_cons, List.map_nil, ev, upd, Nat.beq, cond_false, cond_true, e_74, e_79, e_86]) h (fun x109 w110 h => ?_))
           obtain ⟨hx111, f112⟩ := h
           refine ⟨(fun h_ => absurd h_ (by decide)), ?_⟩
           refine DL.takeP (listed' := #[T,T,T,T,T,T,T,T,T,T,T,T,T,T,T,T,F,F,T,F,F]) (v := .tuple #[aggv x109.1, .int .i64 x109.2]) 15 rfl rfl (by kernel_rfl) rfl trivial rfl (fun w_ K_ h_ => OpW.move (v := .tuple #[aggv x109.1, .int .i64 x109.2]) rfl h_) ?_
           refine DL.takeP (listed' := #[T,T,T,T,T,T,T,T,T,T,T,T,T,T,T,T,T,F,T,F,F]) (v := aggv x109.1) 16 rfl rfl (by kernel_rfl) rfl trivial rfl (fun w_ K_ h_ => OpW.extract (v := aggv x109.1) rfl rfl h_) ?_
           refine DL.takeP (listed' := #[T,T,T,T,T,T,T,T,T,T,T,T,T,T,T,T,T,T,T,F,F]) (v := .int .i64 x109.2) 17 rfl rfl (by kernel_rfl) rfl trivial rfl (fun w_ K_ h_ => OpW.extract (v := .int .i64 x109.2) rfl rfl h_) ?_
           exact hD_14_18 _ _ ⟨(x109.1, x109.2), x80, Ext.trans hx_1 hx111, f112, st_18 _ _ _ _ hx111 f_18, e_1, e_2, e_4, e_6, e_8, e_9, e_10, rfl, rfl⟩

         intro hD_18
         have hx_0 : Ext w75 w75 := Ext.refl _
         refine DL.branch [14, 18] (by kernel_rfl) rfl ?_
         refine all_cons ?_ (all_cons ?_ (all_nil))
         ·clear h
          have h := run_14 () w75 hx_0 trivial
          refine DLop.execS (listed' := #[T,T,T,T,T,T,T,T,T,T,T,T,T,T,T,F,F,F,F,F,F]) rfl rfl trivial rfl (OpW.callR (al := [aggv x77, .int .i64 (IntKind.i64.wrap ((IntKind.i64.wrap (x78 + 2)) + s65)), str ((s55.take (Int.toNat (IntKind.i64.wrap ((IntKind.i64.wrap (s65 + 1)) * 512)))).drop (Int.toNat (IntKind.i64.wrap (s65 * 512))))]) Try.func42 fb_42 fn_42 rfl h (fun x113 w114 h => ?_))
          obtain ⟨hx115, f116⟩ := h
          refine ⟨(fun h_ => absurd h_ (by decide)), ?_⟩
          refine DL.takeP (listed' := #[T,T,T,T,T,T,T,T,T,T,T,T,T,T,T,T,F,F,F,F,F]) (v := .tuple #[aggv x113.1, .int .i64 x113.2]) 15 rfl rfl (by kernel_rfl) rfl trivial rfl (fun w_ K_ h_ => OpW.move (v := .tuple #[aggv x113.1, .int .i64 x113.2]) rfl h_) ?_
          refine DL.takeP (listed' := #[T,T,T,T,T,T,T,T,T,T,T,T,T,T,T,T,T,F,F,F,F]) (v := aggv x113.1) 16 rfl rfl (by kernel_rfl) rfl trivial rfl (fun w_ K_ h_ => OpW.extract (v := aggv x113.1) rfl rfl h_) ?_
          refine DL.takeP (listed' := #[T,T,T,T,T,T,T,T,T,T,T,T,T,T,T,T,T,T,F,F,F]) (v := .int .i64 x113.2) 17 rfl rfl (by kernel_rfl) rfl trivial rfl (fun w_ K_ h_ => OpW.extract (v := .int .i64 x113.2) rfl rfl h_) ?_
          exact hD_14 _ _ ⟨(x113.1, x113.2), Ext.trans hx_0 hx115, f116, e69, e70, e71, e72, e73, e68, rfl, rfl⟩
         ·clear h
          have h := run_18 () w75 hx_0 trivial
          obtain ⟨b117, hb117_⟩ : ∃ b_, b_ = w75.heap.size := ⟨_, rfl⟩
          obtain ⟨w118, hw118_⟩ : ∃ w_, w_ = w75.alloc (.cells (List.toArray [Value.slice none 0 0, Value.slice none 0 0, Value.slice none 0 0, Value.int .i64 0, Value.bool false]) 49) := ⟨_, rfl⟩
          have h := h b117 w118 hb117_ hw118_
          refine DLop.execS (listed' := #[T,T,T,T,T,T,T,T,T,T,T,T,T,T,F,F,F,F,T,F,F]) rfl rfl trivial rfl (OpW.allocE (b := b117) zero_49 hb117_ hw118_ ?_)
          obtain ⟨hx119, f120⟩ := h
          refine ⟨(fun _ hS_ => Ext.trans hS_ hx119), ?_⟩
          exact hD_18 _ _ ⟨⟨b117, 0, none⟩, Ext.trans hx_0 hx119, f120, e69, e70, e71, e72, e73, e68, rfl, rfl, rfl, rfl⟩

        ·have h := hc hb74; clear ha hc
         refine CW.exit ?_
         refine CW.seq ?_
         refine CW.region ?_
         refine RL.opS trivial rfl (OpW.fieldAddr (off := 0) field_52_0 e70 ?_)
         obtain ⟨x121, h1, h2, h⟩ := h
         refine RL.opS trivial rfl (OpW.loadA agg_49 rfl h1 h2 ?_)
         refine RL.opS trivial rfl (OpW.callR (al := [aggv x121]) Try.func65 fb_65 fn_65 rfl h (fun x122 w123 h => ?_))
         refine RL.opS trivial rfl (OpW.move (v := .tuple #[aggv x122.1, .int .i64 x122.2]) rfl ?_)
         refine RL.opS trivial rfl (OpW.extract (v := aggv x122.1) rfl rfl ?_)
         refine RL.opS trivial rfl (OpW.extract (v := .int .i64 x122.2) rfl rfl ?_)
         obtain ⟨hl_b124, ho_b124, h⟩ := h
         obtain ⟨b124, hb124_⟩ : ∃ b_, b_ = w123.heap.size := ⟨_, rfl⟩
         obtain ⟨w125, hw125_⟩ : ∃ w_, w_ = w123.alloc (.cells (List.toArray x122.1) 49) := ⟨_, rfl⟩
         have h := h b124 w125 hb124_ hw125_
         refine RL.opS trivial rfl (OpW.allocZ (b := b124) zero_49 hb124_ ?_)
         refine RL.opN trivial (OpW.storeF (zs := [Value.slice none 0 0, Value.slice none 0 0, Value.slice none 0 0, Value.int .i64 0, Value.bool false]) (cs := x122.1) size_49 rfl rfl hl_b124 (by decide) ho_b124 hb124_ hw125_ ?_)
         refine RL.opS trivial rfl (OpW.assign (v := .int .i64 x122.2) rfl ?_)
         refine RL.nil ?_
         refine CW.seq ?_
         refine CW.region ?_
         obtain ⟨x126, h1, h2, h⟩ := h
         refine RL.opS trivial rfl (OpW.loadA agg_49 rfl h1 h2 ?_)
         refine RL.opS trivial rfl (OpW.fieldAddr (off := 0) field_52_0 e70 ?_)
         obtain ⟨g_, o_, e_, cur_, ha_, h1, h2, h3, h4, h⟩ := h
         obtain ⟨w127, hw127_⟩ : ∃ w_, w_ = w125.setRow g_ (cur_.toList.take o_ ++ x126 ++ cur_.toList.drop (o_ + List.length x126)).toArray := ⟨_, rfl⟩
         have h := h w127 hw127_
         refine RL.opN trivial (OpW.storeAE (cs := x126) size_49 rfl rfl ha_ h1 h2 h3 h4 hw127_ ?_)
         refine RL.nil ?_
         refine CW.seq ?_
         refine CW.seq ?_
         refine CW.region ?_
         refine RL.opS trivial rfl (OpW.move (v := .int .i64 x122.2) rfl ?_)
         refine RL.opS trivial rfl (OpW.bin (k := .i64) (a := x122.2) (b := 0) (v := .bool (!decide (x122.2 = 0))) rfl rfl rfl ?_)
         refine RL.nil ?_
         obtain ⟨ha, hc⟩ := h
         refine CW.cond (b := (!decide (x122.2 = 0))) rfl (fun hb128 => ?_) (fun hb128 => ?_)
         ·have h := ha hb128; clear ha hc
          refine CW.seq ?_
          refine CW.region ?_
          refine RL.opS trivial rfl (OpW.fieldAddr field_52_6 e70 ?_)
          obtain ⟨u_, h1, h2, h⟩ := h
          obtain ⟨w129, hw129_⟩ : ∃ w_, w_ = w127.setCell (Addr.add ⟨b1, 0, none⟩ 10) (.bool true) := ⟨_, rfl⟩
          have h := h w129 hw129_
          refine RL.opN trivial (OpW.store1E (v := .bool true) size_4 rfl rfl rfl h1 h2 hw129_ ?_)
          refine RL.nil ?_
          refine CW.seq ?_
          refine CW.region ?_
          obtain ⟨x130, h1, h2, h⟩ := h
          refine RL.opS trivial rfl (OpW.loadA agg_52 e70 h1 h2 ?_)
          refine RL.opS trivial rfl (OpW.move (v := .int .i64 x122.2) rfl ?_)
          obtain ⟨g_, o_, e_, cur_, ha_, h1, h2, h3, h4, h⟩ := h
          obtain ⟨w131, hw131_⟩ : ∃ w_, w_ = w129.setRow g_ (cur_.toList.take o_ ++ x130 ++ cur_.toList.drop (o_ + List.length x130)).toArray := ⟨_, rfl⟩
          have h := h w131 hw131_
          refine RL.opN trivial (OpW.storeAE (cs := x130) size_52 e71 rfl ha_ h1 h2 h3 h4 hw131_ ?_)
          refine RL.opS trivial rfl (OpW.assign (v := .int .i64 x122.2) rfl ?_)
          refine RL.nil ?_
          refine CW.ret ?_
          obtain ⟨x132, hc1, hc2, h⟩ := h
          exact ret_intro (res2c rfl agg_52 e71 hc1 hc2 rfl) ⟨(x132, x122.2), rfl, h⟩
         ·have h := hc hb128; clear ha hc
          refine CW.skip ?_
          refine CW.seq ?_
          refine CW.region ?_
          obtain ⟨x133, h1, h2, h⟩ := h
          refine RL.opS trivial rfl (OpW.loadA agg_52 e70 h1 h2 ?_)
          refine RL.opS trivial rfl (OpW.fieldAddr field_52_3 e70 ?_)
          obtain ⟨x134, h1, h⟩ := h
          refine RL.opS trivial rfl (OpW.load1 (v := .int .u64 x134) one_25 rfl h1 ?_)
          refine RL.opS trivial rfl (OpW.bin (k := .u64) (a := x134) (b := 1) (v := .int .u64 (IntKind.u64.wrap (x134 + 1))) rfl rfl rfl ?_)
          refine RL.opS trivial rfl (OpW.move (v := str s15.1) e72 ?_)
          refine RL.opS trivial rfl (OpW.callR (al := [aggv x133, .int .u64 (IntKind.u64.wrap (x134 + 1)), str s15.1]) Try.func80 fb_80 fn_80 rfl h (fun x135 w136 h => ?_))
          refine RL.opS trivial rfl (OpW.move (v := .tuple #[aggv x135.1, .int .i64 x135.2]) rfl ?_)
          refine RL.opS trivial rfl (OpW.extract (v := aggv x135.1) rfl rfl ?_)
          refine RL.opS trivial rfl (OpW.extract (v := .int .i64 x135.2) rfl rfl ?_)
          obtain ⟨g_, o_, e_, cur_, ha_, h1, h2, h3, h4, h⟩ := h
          obtain ⟨w137, hw137_⟩ : ∃ w_, w_ = w136.setRow g_ (cur_.toList.take o_ ++ x135.1 ++ cur_.toList.drop (o_ + List.length x135.1)).toArray := ⟨_, rfl⟩
          have h := h w137 hw137_
          refine RL.opN trivial (OpW.storeAE (cs := x135.1) size_52 e70 rfl ha_ h1 h2 h3 h4 hw137_ ?_)
          refine RL.opS trivial rfl (OpW.assign (v := .int .i64 x135.2) rfl ?_)
          refine RL.nil ?_
          refine jn_elim h ?_; clear h; intro k150 hk151 h
          refine CW.seqJ (A := Unit) (fun s142 ρ => ρ 2 = .pointer (some ⟨b1, 0, none⟩) ∧ ρ 4 = .pointer (some ⟨b3, 0, none⟩) ∧ ρ 13 = .int .i64 x135.2) k150 ?_ ?_
          ·rintro s142 ρ w143 ⟨e144, e145, e146⟩ h
           subst hk151
           refine CW.seq ?_
           refine CW.region ?_
           obtain ⟨x147, h1, h2, h⟩ := h
           refine RL.opS trivial rfl (OpW.loadA agg_52 e144 h1 h2 ?_)
           refine RL.opS trivial rfl (OpW.move (v := .int .i64 x135.2) e146 ?_)
           obtain ⟨g_, o_, e_, cur_, ha_, h1, h2, h3, h4, h⟩ := h
           obtain ⟨w148, hw148_⟩ : ∃ w_, w_ = w143.setRow g_ (cur_.toList.take o_ ++ x147 ++ cur_.toList.drop (o_ + List.length x147)).toArray := ⟨_, rfl⟩
           have h := h w148 hw148_
           refine RL.opN trivial (OpW.storeAE (cs := x147) size_52 e145 rfl ha_ h1 h2 h3 h4 hw148_ ?_)
           refine RL.opS trivial rfl (OpW.assign (v := .int .i64 x135.2) rfl ?_)
           refine RL.nil ?_
           refine CW.ret ?_
           obtain ⟨x149, hc1, hc2, h⟩ := h
           exact ret_intro (res2c rfl agg_52 e145 hc1 hc2 rfl) ⟨(x149, x135.2), rfl, h⟩
          ·clear hk151
           refine CW.seq ?_
           refine CW.region ?_
           refine RL.opS trivial rfl (OpW.move (v := .int .i64 x135.2) rfl ?_)
           refine RL.opS trivial rfl (OpW.bin (k := .i64) (a := x135.2) (b := 0) (v := .bool (decide (x135.2 = 0))) rfl rfl rfl ?_)
           refine RL.nil ?_
           obtain ⟨ha, hc⟩ := h
           refine CW.cond (b := (decide (x135.2 = 0))) rfl (fun hb139 => ?_) (fun hb139 => ?_)
           ·have h := ha hb139; clear ha hc
            refine CW.region ?_
            refine RL.opS trivial rfl (OpW.fieldAddr field_52_5 e70 ?_)
            obtain ⟨x140, h1, h⟩ := h
            refine RL.opS trivial rfl (OpW.load1 (v := .int .i64 x140) one_3 rfl h1 ?_)
            refine RL.opS trivial rfl (OpW.move (v := Sl.v p1) e69 ?_)
            refine RL.opS trivial rfl (OpW.len (s := p1) slice_45 rfl ?_)
            refine RL.opS trivial rfl (OpW.bin (k := .i64) (a := x140) (b := (p1.len : Int)) (v := .int .i64 (IntKind.i64.wrap (x140 + (p1.len : Int)))) rfl rfl rfl ?_)
            refine RL.opS trivial rfl (OpW.fieldAddr field_52_5 e70 ?_)
            obtain ⟨u_, h1, h2, h⟩ := h
            obtain ⟨w141, hw141_⟩ : ∃ w_, w_ = w137.setCell (Addr.add ⟨b1, 0, none⟩ 9) (.int .i64 (IntKind.i64.wrap (x140 + (p1.len : Int)))) := ⟨_, rfl⟩
            have h := h w141 hw141_
            refine RL.opN trivial (OpW.store1E (v := .int .i64 (IntKind.i64.wrap (x140 + (p1.len : Int)))) size_3 rfl rfl rfl h1 h2 hw141_ ?_)
            refine RL.nil ?_
            exact ⟨(), ⟨e70, e71, rfl⟩, h⟩
           ·have h := hc hb139; clear ha hc
            refine CW.skip ?_
            exact ⟨(), ⟨e70, e71, rfl⟩, h⟩
     ·clear hk157
      dsimp only [List.take]
      obtain ⟨ha, hc⟩ := h
      rcases Bool.eq_false_or_eq_true (decide (x40 < (s15.1.length : Int))) with hb41 | hb41
      ·have h := ha hb41; clear ha hc
       refine RL.skipS (notWanted_of rfl rfl hb41) rfl ?_
       refine RL.skipS (notWanted_of rfl rfl hb41) rfl ?_
       refine RL.skipS (notWanted_of rfl rfl hb41) rfl ?_
       refine RL.opS trivial rfl (OpW.pick (b := true) (v := .bool true) (congrArg Value.bool hb41) rfl ?_)
       refine RL.nil ?_
       exact ⟨true, ⟨rfl, e29, e30, e31, e32⟩, h⟩
      ·have h := hc hb41; clear ha hc
       refine RL.opS (wanted_of rfl rfl hb41) rfl (OpW.fieldAddr field_52_3 e30 ?_)
       obtain ⟨x43, h1, h⟩ := h
       refine RL.opS (wanted_of rfl rfl hb41) rfl (OpW.load1 (v := .int .u64 x43) one_25 rfl h1 ?_)
       refine RL.opS (wanted_of rfl rfl hb41) rfl (OpW.bin (k := .u64) (a := x43) (b := 4611686018427387904) (v := .bool (decide (x43 = 4611686018427387904))) rfl rfl rfl ?_)
       refine RL.opS trivial rfl (OpW.pick (b := false) (v := .bool (decide (x43 = 4611686018427387904))) (congrArg Value.bool hb41) rfl ?_)
       refine RL.nil ?_
       exact ⟨(decide (x43 = 4611686018427387904)), ⟨rfl, e29, e30, e31, e32⟩, h⟩
   ·clear hk159
    dsimp only [List.take]
    obtain ⟨ha, hc⟩ := h
    rcases Bool.eq_false_or_eq_true (decide (s15.2 < (p1.len : Int))) with hb23 | hb23
    ·have h := ha hb23; clear ha hc
     refine RL.opS (wanted_of rfl rfl hb23) rfl (OpW.move (v := str s15.1) e18 ?_)
     refine RL.opS (wanted_of rfl rfl hb23) rfl (OpW.lenStr us_9 rfl ?_)
     refine RL.opS (wanted_of rfl rfl hb23) rfl (OpW.fieldAddr field_52_2 e21 ?_)
     obtain ⟨x25, h1, h⟩ := h
     refine RL.opS (wanted_of rfl rfl hb23) rfl (OpW.load1 (v := .int .i64 x25) one_3 rfl h1 ?_)
     refine RL.opS (wanted_of rfl rfl hb23) rfl (OpW.bin (k := .i64) (a := (s15.1.length : Int)) (b := x25) (v := .bool (decide ((s15.1.length : Int) ≤ x25))) rfl rfl rfl ?_)
     refine RL.opS trivial rfl (OpW.pick (b := true) (v := .bool (decide ((s15.1.length : Int) ≤ x25))) (congrArg Value.bool hb23) rfl ?_)
     refine RL.nil ?_
     exact ⟨(decide ((s15.1.length : Int) ≤ x25)), ⟨rfl, e20, e21, e22, e18, e19⟩, h⟩
    ·have h := hc hb23; clear ha hc
     refine RL.skipS (notWanted_of rfl rfl hb23) rfl ?_
     refine RL.skipS (notWanted_of rfl rfl hb23) rfl ?_
     refine RL.skipS (notWanted_of rfl rfl hb23) rfl ?_
     refine RL.skipS (notWanted_of rfl rfl hb23) rfl ?_
     refine RL.skipS (notWanted_of rfl rfl hb23) rfl ?_
     refine RL.opS trivial rfl (OpW.pick (b := false) (v := .bool false) (congrArg Value.bool hb23) rfl ?_)
     refine RL.nil ?_
     exact ⟨false, ⟨rfl, e20, e21, e22, e18, e19⟩, h⟩
end Go.Proofs.Ytagkcbbbdlmcjaa
end
section
/- The document's journal: an emptying, an adding. -/
namespace Go.Proofs.Ytagkcbbbdlmcjaa
open Go.Lift Go.Lift.Disk Go.Lift.Crc Go.Lift.Wal Go.RowKit
theorem splice_all {xs ys : List Value} (hx : xs.length = 11) (hy : ys.length = 11) : splice ys 0 xs = xs := by
 unfold splice
 rw [List.take_zero, List.nil_append, List.drop_of_length_le (by omega), List.append_nil]
theorem rreset_ok {w : World} {B : Nat → Prop} {xs : List Value} {D : Dk} {frm room : Nat} {J : Lg} (h : JAt w B xs D frm room J) (hwf : D.Wf) (hb : Bnd D 2) (hBn : ∀ k, w.heap.size ≤ k → B k) (hfrm : frm ≤ 4096) (hsq : J.seq ≤ last) :
  Calls Try.prog 57 #[aggv xs] w (Ret r57 fun x w' => x.2 = (resetD D J frm).2.2 ∧ JAt w' B x.1 (resetD D J frm).1 frm room (resetD D J frm).2.1 ∧ Ext w w') := by
 apply s57_calls
 have hll : last = 4611686018427387904 := rfl
 intro b1 w2 hb1 hw2
 have hx2 : Ext w w2 := Ext.new hw2
 have hB2 : Blk w2 b1 52 xs := Blk.new hb1 hw2
 intro b3 w4 hb3 hw4
 have hx4 : Ext w2 w4 := Ext.new hw4
 have hR4 : Blk w4 b3 52 jz := Blk.new hb3 hw4
 have hB4 := hB2.ext hx4
 have hxw4 := hx2.trans hx4
 have h13 : b1 < b3 := by rw [hb3]; exact hB2.lt
 have hb3l := hR4.lt
 have hwb1 : w.heap.size ≤ b1 := by rw [hb1]; exact Nat.le_refl _
 have hwb3 : w.heap.size ≤ b3 := by rw [hb3]; exact hx2.size
 obtain ⟨B', hB'⟩ : ∃ B' : Nat → Prop, B' = fun k => B k ∧ k ≠ b1 ∧ k ≠ b3 := ⟨_, rfl⟩
 have hA' : JAt w B' xs D frm room J := h.mono fun k hk hb => by rw [hB']; exact ⟨hb, by omega, by omega⟩
 have hBn' : ∀ {v : World}, w4.heap.size ≤ v.heap.size → ∀ k, v.heap.size ≤ k → B' k := by
  intro v hv k hk
  rw [hB']
  exact ⟨hBn k (Nat.le_trans hxw4.size (Nat.le_trans hv hk)), by omega, by omega⟩
 have hBb1 : ∀ k, B' k → ¬ k = b1 := fun k hk => by rw [hB'] at hk; exact hk.2.1
 have hBb3 : ∀ k, B' k → ¬ k = b3 := fun k hk => by rw [hB'] at hk; exact hk.2.2
 have back : ∀ {v : World} {ys : List Value} {E : Dk} {M : Lg}, JAt v B' ys E frm room M → JAt v B ys E frm room M := fun hv => hv.mono fun k _ hk => by rw [hB'] at hk; exact hk.1
 have hA4 := hA'.ext hxw4
 obtain ⟨cs, hcs, hA⟩ := id hA4
 have hcl := hA.len
 have hB4' := hB4
 rw [hcs] at hB4'
 obtain ⟨c5, c6, c7, c8, c9, c10⟩ := jc_cell hcl hB4'
 unfold resetD
 refine ⟨J.broken, by rw [add_plain]; exact c10, fun hbr => ?_, fun hbr => ?_⟩
 ·rw [if_pos hbr]
  refine ansJ h.len h.one hB4 hR4 rfl fun w8 hf8 hB8 => ?_
  exact ⟨rfl, back (hA4.foot hf8 hBb3), hf8.ext hxw4 fun k _ e => by rw [e]; exact hwb3⟩
 rw [if_neg (by rw [hbr]; simp)]
 refine ⟨(J.seq : Int), by rw [add_plain]; exact c7, fun he => ?_, fun he => ?_⟩
 ·have he := of_decide_eq_true he
  rw [if_pos (by omega)]
  refine ansJ h.len h.one hB4 hR4 rfl fun w8 hf8 hB8 => ?_
  exact ⟨rfl, back (hA4.foot hf8 hBb3), hf8.ext hxw4 fun k _ e => by rw [e]; exact hwb3⟩
 have he := of_decide_eq_false he
 rw [if_neg (by omega)]
 refine ⟨xs, h.len, hB4.at (by rw [List.drop_zero, List.take_length]), (J.seq : Int), by rw [add_plain]; exact c7, ?_⟩
 have e1 : IntKind.u64.wrap ((J.seq : Int) + 1) = ((J.seq + 1 : Nat) : Int) := by rw [wu64_eq (by omega) (by omega)]; omega
 show cR _ _ _ _ _ _
 rw [e1]
 refine cR_of (rhead_ok hA4 hwf hb (hBn' (Nat.le_refl _)) hfrm (J.seq + 1) (by omega) [] (by simp)) ?_
 rintro ⟨x17, e17⟩ w18 ⟨he17, hA18, hx18⟩
 simp only [List.length_nil] at he17 hA18
 subst he17
 have hl17 := hA18.len
 refine stA_blk (hB4.ext hx18) hl17 (by rw [h.len]; decide) hA18.one fun w19 hB19 hf19 => ?_
 rw [splice_all hl17 h.len] at hB19
 have hx19 : Ext w w19 := hf19.ext (hxw4.trans hx18) fun k _ e => by rw [e]; exact hwb1
 have hA19 := hA18.foot hf19 hBb1
 have hR19 := (hR4.ext hx18).fr hf19 (by omega)
 generalize headW D frm (J.seq + 1) 0 = R at hA18 hA19 ⊢
 refine jn_of fun k1 hk1 => ⟨fun h0 => ?_, fun h0 => ?_⟩
 ·have h0 := of_decide_eq_true h0
  have h0 : R.2 = 0 := h0
  obtain ⟨c2, hc2, hA2⟩ := id hA19
  have hl2 := hA2.len
  unfold Lg.headed at hc2
  rw [if_pos h0] at hc2
  simp only at hc2
  rw [hc2] at hB19
  show st1 _ _ _ _
  rw [add_plain]
  refine st1_blk hB19 (by rw [jc_len hl2]; decide) fun w22 hB22 hf22 => ?_
  have e9 : (jc c2 frm room (J.seq + 1) [] J.count J.broken).set (0 + 9) (.int .i64 0) = jc c2 frm room (J.seq + 1) [] 0 J.broken := (jc_set hl2 0 [] 0 true).2.2.1
  rw [e9] at hB22
  have hx22 : Ext w w22 := hf22.ext hx19 fun k _ e => by rw [e]; exact hwb1
  have hA22 := hA2.foot hf22 hBb1
  rw [hk1]
  refine ansJ (jc_len hl2) (jc_one hA22.one) hB22 (hR19.fr hf22 (by omega)) rfl fun w57 hf57 hB57 => ?_
  rw [if_pos h0]
  refine ⟨h0, back ⟨c2, ?_, hA22.foot hf57 hBb3⟩, hf57.ext hx22 fun k _ e => by rw [e]; exact hwb3⟩
  rw [hbr]
 ·have h0 := of_decide_eq_false h0
  have h0 : ¬ R.2 = 0 := h0
  rw [hk1]
  refine ansJ hl17 hA19.one hB19 hR19 rfl fun w57 hf57 hB57 => ?_
  rw [if_neg h0]
  refine ⟨rfl, ?_, hf57.ext hx19 fun k _ e => by rw [e]; exact hwb3⟩
  have := hA19.foot hf57 hBb3
  unfold Lg.headed at this
  rw [if_neg h0] at this
  exact back this
/-! ### an adding -/
theorem gather_big : ∀ (l : List (List UInt8)) (room : Nat) (A : List UInt8), room < A.length → gather l room A = none
 | [], room, A, h => by unfold gather; rw [if_pos h]
 | s :: l, room, A, h => by unfold gather; rw [if_pos (by omega)]
theorem gather_step (s : List UInt8) (l : List (List UInt8)) (room : Nat) (A : List UInt8) : gather (s :: l) room A = gather l room (A ++ frameB s) := by
 have := frameB_len s
 conv => lhs; unfold gather
 split
 ·rw [gather_big _ _ _ (by rw [List.length_append]; omega)]
 ·rfl
theorem padded {A : List UInt8} {i C : Nat} (hC : C = (A.length + 511) / 512) (h : i * 512 < A.length) : ((A ++ zeros (C * 512 - A.length)).take ((i + 1) * 512)).drop (i * 512) = padB A i := by
 unfold padB sliceB
 have hz : (zeros (C * 512 - A.length)).length = C * 512 - A.length := List.length_replicate ..
 rcases Nat.lt_or_ge A.length ((i + 1) * 512) with hlt | hge
 ·have hi : C = i + 1 := by omega
  rw [List.take_of_length_le (by rw [List.length_append, hz]; omega), List.drop_append_of_le_length (by omega), List.take_of_length_le (show A.length ≤ i * 512 + 512 by omega)]
  congr 2
  omega
 ·rw [List.take_append_of_le_length hge]
  have : 512 - (A.length - i * 512) = 0 := by omega
  rw [this]
  have e : (i + 1) * 512 = i * 512 + 512 := by omega
  rw [e]
  simp [zeros]
theorem radd_ok {w : World} {B : Nat → Prop} {xs : List Value} {D : Dk} {frm room : Nat} {J : Lg} (h : JAt w B xs D frm room J) (hwf : D.Wf) (hb : Bnd D 5000) (hBn : ∀ k, w.heap.size ≤ k → B k) (hJ : LgWf J frm room)
  (p : Sl) (l : List (List UInt8)) (hp : StrsAt w p l) (hl : l.length ≤ 1000000) (hs : ∀ s ∈ l, s.length ≤ 1000000) :
  Calls Try.prog 56 #[aggv xs, p.v] w (Ret r56 fun x w' => x.2 = (addD D J frm room l).2.2 ∧ JAt w' B x.1 (addD D J frm room l).1 frm room (addD D J frm room l).2.1 ∧ Ext w w') := by
 apply s56_calls
 have hll : last = 4611686018427387904 := rfl
 have hsq := hJ.hseq
 have hrm := hJ.hroom
 have hct := hJ.hcount
 have hdt := hJ.hdata
 have hfr := hJ.hfrm
 have hplen := hp.len
 intro b1 w2 hb1 hw2
 have hx2 : Ext w w2 := Ext.new hw2
 have hB2 : Blk w2 b1 52 xs := Blk.new hb1 hw2
 intro b3 w4 hb3 hw4
 have hx4 : Ext w2 w4 := Ext.new hw4
 have hR4 : Blk w4 b3 52 jz := Blk.new hb3 hw4
 have hB4 := hB2.ext hx4
 have hxw4 := hx2.trans hx4
 have h13 : b1 < b3 := by rw [hb3]; exact hB2.lt
 have hb3l := hR4.lt
 have hwb1 : w.heap.size ≤ b1 := by rw [hb1]; exact Nat.le_refl _
 have hwb3 : w.heap.size ≤ b3 := by rw [hb3]; exact hx2.size
 obtain ⟨B', hB'⟩ : ∃ B' : Nat → Prop, B' = fun k => B k ∧ k ≠ b1 ∧ k ≠ b3 := ⟨_, rfl⟩
 have hA' : JAt w B' xs D frm room J := h.mono fun k hk hb => by rw [hB']; exact ⟨hb, by omega, by omega⟩
 have hBn' : ∀ {v : World}, w4.heap.size ≤ v.heap.size → ∀ k, v.heap.size ≤ k → B' k := by
  intro v hv k hk
  rw [hB']
  exact ⟨hBn k (Nat.le_trans hxw4.size (Nat.le_trans hv hk)), by omega, by omega⟩
 have hBb1 : ∀ k, B' k → ¬ k = b1 := fun k hk => by rw [hB'] at hk; exact hk.2.1
 have hBb3 : ∀ k, B' k → ¬ k = b3 := fun k hk => by rw [hB'] at hk; exact hk.2.2
 have back : ∀ {v : World} {ys : List Value} {E : Dk} {M : Lg}, JAt v B' ys E frm room M → JAt v B ys E frm room M := fun hv => hv.mono fun k _ hk => by rw [hB'] at hk; exact hk.1
 have hA4 := hA'.ext hxw4
 obtain ⟨cs, hcs, hA⟩ := id hA4
 have hcl := hA.len
 have hB4' := hB4
 rw [hcs] at hB4'
 obtain ⟨c5, c6, c7, c8, c9, c10⟩ := jc_cell hcl hB4'
 unfold addD
 -- nothing is done
 have stay : ∀ (v : World) (K : List Value → World → Prop), Ext w4 v → (∀ v', JAt v' B xs D frm room J → Ext w v' → K xs v') → ldA 11 ⟨b1, 0, none⟩ v fun x => stA 11 ⟨b3, 0, none⟩ x v fun w' => ldA 11 ⟨b3, 0, none⟩ w' fun x' => K x' w' := by
  intro v K hv hK
  refine ansJ h.len h.one (hB4.ext hv) (hR4.ext hv) rfl fun w8 hf8 hB8 => ?_
  exact hK w8 (back ((hA4.ext hv).foot hf8 hBb3)) (hf8.ext (hxw4.trans hv) fun k _ e => by rw [e]; exact hwb3)
 refine ⟨J.broken, by rw [add_plain]; exact c10, fun hbr => ?_, fun hbr => ?_⟩
 ·rw [if_pos hbr]
  exact stay w4 _ (Ext.refl _) fun v' h1 h2 => ⟨rfl, h1, h2⟩
 rw [if_neg (by rw [hbr]; simp)]
 refine ⟨fun h0 => ?_, fun h0 => ?_⟩
 ·have h0 := of_decide_eq_true h0
  rw [if_pos (List.eq_nil_of_length_eq_zero (by omega))]
  exact stay w4 _ (Ext.refl _) fun v' h1 h2 => ⟨rfl, h1, h2⟩
 have h0 := of_decide_eq_false h0
 have hlpos : 0 < l.length := by omega
 rw [if_neg (by intro e; rw [e] at hlpos; simp at hlpos)]
 refine ⟨J.data, by rw [add_plain]; exact c8, ?_⟩
 obtain ⟨G, hG⟩ : ∃ G, G = gather l room J.data := ⟨_, rfl⟩
 rw [← hG]
 refine ⟨fun st w' => ∃ k : Nat, k ≤ l.length ∧ st.2 = (k : Int) ∧ gather (l.drop k) room st.1 = G ∧ st.1.length ≤ room + 1000020 ∧ J.data.length + k ≤ st.1.length ∧ Ext w4 w',
  fun st _ => l.length - st.2.toNat, ⟨0, Nat.zero_le _, rfl, hG.symm, by simp only; omega, Nat.le_refl _, Ext.refl _⟩, ?_⟩
 rintro ⟨A, i⟩ w16 ⟨k, hk, rfl, hga, hAl, hAk, hx16⟩
 simp only at hga hAl hAk ⊢
 have hB16 := hB4'.ext hx16
 obtain ⟨d5, d6, d7, d8, d9, d10⟩ := jc_cell hcl hB16
 refine jn_of fun k1 hk1 => ?_
 have key1 : ∀ q : Bool, (q = true ↔ (k < l.length ∧ A.length ≤ room)) → k1 q w16 := by
  intro q hq
  rw [hk1]
  refine ⟨fun ht => ?_, fun hf => ?_⟩
  ·obtain ⟨hkl, hAr⟩ := hq.1 ht
   rw [List.drop_eq_getElem_cons hkl, gather_step] at hga
   obtain ⟨a, ha, hc⟩ := (hp.ext (hxw4.trans hx16)).get hkl
   have hsk := hs _ (List.getElem_mem hkl)
   refine ⟨a, _, ha, by omega, by omega, rfl, l[k], by rw [Int.toNat_natCast, Nat.mul_one]; exact hc, ?_⟩
   refine cR_of (rframe_ok w16 l[k] (by omega)) ?_
   rintro x38 w39 ⟨rfl, hx39⟩
   have hfl := frameB_len l[k]
   have hnl := (numB_len l[k].length (by omega))
   refine ⟨by omega, ?_⟩
   rw [w64_eq (by omega) (by omega)]
   exact ⟨⟨k + 1, by omega, by omega, hga, by rw [List.length_append]; omega, by rw [List.length_append]; omega, hx16.trans hx39⟩, by omega⟩
  ·have hnn : ¬ (k < l.length ∧ A.length ≤ room) := fun hh => by rw [hq.2 hh] at hf; cases hf
   refine ⟨(room : Int), by rw [add_plain]; exact d6, ?_⟩
   refine jn_of fun k2 hk2 => ?_
   have full : G = none ∨ J.seq = last → k2 true w16 := by
    intro hor
    rw [hk2]
    refine ⟨fun _ => ?_, fun h => absurd h (by simp)⟩
    cases G with
    | none => exact stay w16 _ hx16 fun v' h1 h2 => ⟨rfl, h1, h2⟩
    | some all =>
     have hs' := hor.resolve_left (by simp)
     dsimp only
     rw [if_pos hs']
     exact stay w16 _ hx16 fun v' h1 h2 => ⟨rfl, h1, h2⟩
   refine ⟨fun hbig => full (.inl (by rw [← hga]; exact gather_big _ _ _ (by have := of_decide_eq_true hbig; omega))), fun hfit => ?_⟩
   have hfit : A.length ≤ room := by have := of_decide_eq_false hfit; omega
   have hkl : k = l.length := by omega
   subst hkl
   rw [List.drop_length] at hga
   unfold gather at hga
   rw [if_neg (by omega)] at hga
   refine ⟨(J.seq : Int), by rw [add_plain]; exact d7, ?_⟩
   by_cases hsl : J.seq = last
   ·show k2 _ _
    rw [show decide ((J.seq : Int) = 4611686018427387904) = true from decide_eq_true (by omega)]
    exact full (.inr hsl)
   show k2 _ _
   rw [show decide ((J.seq : Int) = 4611686018427387904) = false from decide_eq_false (by omega), hk2]
   refine ⟨fun h => absurd h (by simp), fun _ => ?_⟩
   rw [← hga]
   simp only
   rw [if_neg hsl]
   have hApos : 0 < A.length := by omega
   obtain ⟨C, hC⟩ : ∃ C, C = (A.length + 511) / 512 := ⟨_, rfl⟩
   obtain ⟨R, hR⟩ : ∃ R, R = addHead (layF (A.length / 512 + 1) D frm A (J.data.length / 512)) frm (J.seq + 1) A.length := ⟨_, rfl⟩
   rw [← hR]
   refine ⟨fun st w' => ∃ j : Nat, st = A ++ zeros j ∧ A.length + j ≤ C * 512 ∧ w16 = w', fun st _ => C * 512 - st.length, ⟨0, by simp [zeros], by omega, rfl⟩, ?_⟩
   rintro st w56 ⟨j, rfl, hj, rfl⟩
   have hzl : (zeros j).length = j := List.length_replicate ..
   have htm : Int.tmod (((A ++ zeros j).length : Nat) : Int) 512 = (((A.length + j) % 512 : Nat) : Int) := by
    rw [List.length_append, hzl, Int.tmod_eq_emod_of_nonneg (by omega)]; omega
   rw [htm]
   refine ⟨fun hne => ?_, fun he => ?_⟩
   ·have hne : (A.length + j) % 512 ≠ 0 := by have := nd_t hne; omega
    refine ⟨by rw [List.length_append, hzl]; simp only [List.length_singleton]; omega, ⟨j + 1, ?_, by omega, rfl⟩, ?_⟩
    ·rw [List.append_assoc]
     congr 1
     unfold zeros
     rw [List.replicate_succ']
    ·simp only [List.length_append, hzl, List.length_singleton]; omega
   ·have he : (A.length + j) % 512 = 0 := by have := nd_f he; omega
    have hjC : A.length + j = C * 512 := by omega
    obtain rfl : j = C * 512 - A.length := by omega
    have hlay : (A ++ zeros (C * 512 - A.length)).length = C * 512 := by rw [List.length_append, hzl]; omega
    have eC : IntKind.i64.wrap (Int.tdiv (((A ++ zeros (C * 512 - A.length)).length : Nat) : Int) 512) = (C : Int) := by
     rw [hlay, Int.tdiv_eq_ediv_of_nonneg (by omega), w64_eq (by omega) (by omega)]; omega
    refine ⟨J.data, by rw [add_plain]; exact d8, ?_⟩
    have e0 : IntKind.i64.wrap (Int.tdiv (J.data.length : Int) 512) = ((J.data.length / 512 : Nat) : Int) := by
     rw [Int.tdiv_eq_ediv_of_nonneg (by omega), w64_eq (by omega) (by omega)]; omega
    show LoopS _ _ _
    rw [e0]
    -- something fails
    have fails : ∀ (v : World) (c' : List Value) (K : List Value → World → Prop), R.2 ≠ 0 → RAt v B' c' R.1 → Blk v b1 52 (jc c' frm room J.seq J.data J.count J.broken) → Blk v b3 52 jz → Ext w v →
      (∀ y v', JAt v' B y (if R.2 = 0 then (R.1, (⟨J.seq + 1, A, J.count + l.length, false⟩ : Lg), (0 : Int)) else (R.1, { J with broken := true }, R.2)).1 frm room (if R.2 = 0 then (R.1, (⟨J.seq + 1, A, J.count + l.length, false⟩ : Lg), (0 : Int)) else (R.1, { J with broken := true }, R.2)).2.1 → Ext w v' → K y v') →
      st1 (Addr.add ⟨b1, 0, none⟩ 10) (.bool true) v fun v1 => ldA 11 ⟨b1, 0, none⟩ v1 fun x => stA 11 ⟨b3, 0, none⟩ x v1 fun w' => ldA 11 ⟨b3, 0, none⟩ w' fun x' => K x' w' := by
     intro v c' K hne hRA hb hb3v hxv hK
     have hl' := hRA.len
     rw [add_plain]
     refine st1_blk hb (by rw [jc_len hl']; decide) fun v1 hBv hfv => ?_
     have e10 := (jc_set (frm := frm) (room := room) (seq := J.seq) (data := J.data) (count := J.count) (br := J.broken) hl' 0 [] 0 true).2.2.2
     rw [Nat.zero_add, e10] at hBv
     have hx1 : Ext w v1 := hfv.ext hxv fun k _ e => by rw [e]; exact hwb1
     have hRA1 := hRA.foot hfv hBb1
     refine ansJ (jc_len hl') (jc_one hRA1.one) hBv (hb3v.fr hfv (by omega)) rfl fun v2 hf2 hBv2 => hK _ _ ?_ (hf2.ext hx1 fun k _ e => by rw [e]; exact hwb3)
     rw [if_neg hne]
     exact back ⟨c', rfl, hRA1.foot hf2 hBb3⟩
    refine ⟨fun st w' => ∃ (f i : Nat) (E : Dk) (c' : List Value), st = (i : Int) ∧ layF f E frm A i = layF (A.length / 512 + 1) D frm A (J.data.length / 512) ∧ A.length < (i + f) * 512 ∧ i ≤ 5000 ∧ Bnd E (f + 5) ∧ E.Wf ∧
      RAt w' B' c' E ∧ Blk w' b1 52 (jc c' frm room J.seq J.data J.count J.broken) ∧ Blk w' b3 52 jz ∧ Ext w w' ∧ w4.heap.size ≤ w'.heap.size,
     fun st _ => C - st.toNat, ⟨A.length / 512 + 1, J.data.length / 512, D, cs, rfl, rfl, by omega, by omega, hb.mono (by omega), hwf, hA.ext hx16, hB16, hR4.ext hx16, hxw4.trans hx16, hx16.size⟩, ?_⟩
    rintro st w66 ⟨f, i, E, c', rfl, hlayE, hfi, hi5, hbE, hEwf, hRA, hBe, hRe, hx66, hs66⟩
    have hl' := hRA.len
    obtain ⟨g5, g6, g7, g8, g9, g10⟩ := jc_cell hl' hBe
    rw [eC]
    refine ⟨fun hlt => ?_, fun hge => ?_⟩
    ·have hlt : i < C := by have := of_decide_eq_true hlt; omega
     have hlt : i * 512 < A.length := by omega
     obtain ⟨f, rfl⟩ : ∃ f', f = f' + 1 := ⟨f - 1, by omega⟩
     rw [layF, if_neg (by omega)] at hlayE
     have hi6 : i + 1 ≤ 5000 := by omega
     have hq : A.length < (i + 1 + f) * 512 := by rw [Nat.add_assoc, Nat.add_comm 1 f]; exact hfi
     have hms : C - (i + 1) < C - i := by omega
     intro w75 hw75
     have hx75 : Ext w66 w75 := by subst hw75; exact Ext.drew _
     refine ⟨c', hl', by rw [add_plain]; exact jc_at hl' hBe, (frm : Int), by rw [add_plain]; exact g5, ?_⟩
     have e3 : IntKind.i64.wrap ((i : Int) * 512) = ((i * 512 : Nat) : Int) := by rw [w64_eq (by omega) (by omega)]; omega
     have e4 : IntKind.i64.wrap (IntKind.i64.wrap ((i : Int) + 1) * 512) = (((i + 1) * 512 : Nat) : Int) := by
      rw [w64_eq (x := (i : Int) + 1) (by omega) (by omega), w64_eq (by omega) (by omega)]; omega
     rw [e3, e4]
     refine ⟨⟨by omega, by omega, by rw [hlay]; omega⟩, ?_⟩
     have e2 : IntKind.i64.wrap (IntKind.i64.wrap ((frm : Int) + 2) + (i : Int)) = ((frm + 2 + i : Nat) : Int) := by
      rw [w64_eq (x := (frm : Int) + 2) (by omega) (by omega), w64_eq (by omega) (by omega)]; omega
     have epad : ((A ++ zeros (C * 512 - A.length)).take (Int.toNat (((i + 1) * 512 : Nat) : Int))).drop (Int.toNat ((i * 512 : Nat) : Int)) = padB A i := by
      rw [Int.toNat_natCast, Int.toNat_natCast]
      exact padded hC hlt
     rw [epad]
     refine ⟨fun _ x v => x.2 = (E.write ((frm + 2 + i : Nat) : Int) (padB A i)).2 ∧ RAt v B' x.1 (E.write ((frm + 2 + i : Nat) : Int) (padB A i)).1, fun _ _ _ _ hx h => ⟨h.1, h.2.ext hx⟩, fun d v hv _ => ?_, ?_⟩
     ·rw [e2]
      refine cR_of (rput_ok v c' E ((hRA.ext hx75).ext hv) hEwf (by have := hbE.1; omega) (by have := hbE.2; omega) (hBn' (Nat.le_trans hs66 (Nat.le_trans hx75.size hv.size))) _ _) ?_
      rintro ⟨x, e⟩ w' ⟨h1, h2, h3⟩
      exact ⟨h3, h1, h2⟩
     refine ⟨fun _ x v => ∃ b, x = ⟨b, 0, none⟩ ∧ Blk v b 49 (rc nilSl nilSl nilSl 0 false) ∧ w75.heap.size ≤ b, fun _ _ _ _ hx ⟨b, h1, h2, h3⟩ => ⟨b, h1, h2.ext hx, h3⟩, fun _ v hv _ => ?_, ?_⟩
     ·intro b28 w29 hb28 hw29
      exact ⟨Ext.new hw29, b28, rfl, Blk.new hb28 hw29, by rw [hb28]; exact hv.size⟩
     rintro ⟨c1, e1⟩ x80 w93 hx93 ⟨he1, hA93⟩ ⟨b, rfl, hb93, hbw⟩
     simp only at he1 hA93
     subst he1
     have hs75 := hx75.size
     have hb1b : b1 ≠ b := by omega
     have hb3b : b3 ≠ b := by omega
     have hx93' := hx75.trans hx93
     refine put_ans hA93 hb93 fun w95 hA95 hb95 hf95 => ?_
     have hx95 : Ext w w95 := hf95.ext (hx66.trans hx93') fun k _ e => by rw [e]; exact Nat.le_trans (hx66.trans hx75).size hbw
     have hB95 := (hBe.ext hx93').fr hf95 hb1b
     have hR95 := (hRe.ext hx93').fr hf95 hb3b
     have hl1 := hA95.len
     refine ⟨c1, hl1, hb95.at (by rw [List.drop_zero, List.take_length]), ?_⟩
     rw [add_plain]
     refine stA_blk hB95 hl1 (by rw [jc_len hl']; decide) hA95.one fun w97 hB97 hf97 => ?_
     rw [jc_disk hl' hl1] at hB97
     have hx97 : Ext w w97 := hf97.ext hx95 fun k _ e => by rw [e]; exact hwb1
     have hA97 := hA95.foot hf97 hBb1
     have hR97 := hR95.fr hf97 (by omega)
     have hs97 : w4.heap.size ≤ w97.heap.size := Nat.le_trans hs66 (Nat.le_trans hx93'.size (Nat.le_trans hf95.size hf97.size))
     have hbw1 := Bnd.write (k := f + 5) (hbE.mono (by omega)) ((frm + 2 + i : Nat) : Int) (padB A i)
     have hwf1 := write_wf hEwf (hbE.mono (by omega)) ((frm + 2 + i : Nat) : Int) (padB A i)
     generalize E.write ((frm + 2 + i : Nat) : Int) (padB A i) = W at hA97 hbw1 hwf1 hlayE ⊢
     refine ⟨fun hne => ?_, fun he => ?_⟩
     ·have hne := nd_t hne
      rw [if_neg hne] at hlayE
      have hRW : R = W := by rw [hR, ← hlayE]; unfold addHead; rw [if_pos hne]
      rw [← hRW] at hne hA97 ⊢
      refine fails w97 c1 _ hne hA97 hB97 hR97 hx97 fun y v' h1 h2 => ⟨?_, h1, h2⟩
      rw [if_neg hne]
     ·have he := nd_f he
      rw [if_pos he] at hlayE
      have e5 : IntKind.i64.wrap ((i : Int) + 1) = ((i + 1 : Nat) : Int) := by rw [w64_eq (by omega) (by omega)]; omega
      rw [e5]
      exact ⟨⟨f, i + 1, W.1, c1, rfl, hlayE, hq, hi6, hbw1, hwf1, hA97, hB97, hR97, hx97, hs97⟩, hms⟩
    ·have hge : A.length ≤ i * 512 := by have := of_decide_eq_false hge; omega
     have hlE : layF (A.length / 512 + 1) D frm A (J.data.length / 512) = (E, 0) := by
      rw [← hlayE]
      cases f with
      | zero => rfl
      | succ f => rw [layF, if_pos hge]
     refine ⟨c', hl', by rw [add_plain]; exact jc_at hl' hBe, ?_⟩
     refine cR_of (rflush_ok w66 c' E hRA hEwf (by have := hbE.1; omega) (hBn' hs66)) ?_
     rintro ⟨c2, e2⟩ w123 ⟨he2, hA123, hx123⟩
     simp only at he2 hA123
     subst he2
     have hl2 := hA123.len
     refine ⟨hl2, hA123.one, fun b124 w125 hb124 hw125 => ?_⟩
     have hx125 : Ext w123 w125 := Ext.new hw125
     have hB124 : Blk w125 b124 49 c2 := Blk.new hb124 hw125
     refine ⟨c2, hl2, hB124.at (by rw [List.drop_zero, List.take_length]), ?_⟩
     have hx125' := hx123.trans hx125
     rw [add_plain]
     refine stA_blk (hBe.ext hx125') hl2 (by rw [jc_len hl']; decide) hA123.one fun w127 hB127 hf127 => ?_
     rw [jc_disk hl' hl2] at hB127
     have hx127 : Ext w w127 := hf127.ext (hx66.trans hx125') fun k _ e => by rw [e]; exact hwb1
     have hA127 := (hA123.ext hx125).foot hf127 hBb1
     have hR127 := (hRe.ext hx125').fr hf127 (by omega)
     have hs127 : w4.heap.size ≤ w127.heap.size := Nat.le_trans hs66 (Nat.le_trans hx125'.size hf127.size)
     have hbF := Bnd.flush (k := 2) (hbE.mono (by omega))
     have hwF := flush_wf hEwf (hbE.mono (by omega))
     rw [hlE] at hR
     unfold addHead at hR
     rw [if_neg (by simp)] at hR
     simp only at hR
     generalize E.flush = F at hA127 hbF hwF hR ⊢
     refine ⟨fun hne => ?_, fun he => ?_⟩
     ·have hne := nd_t hne
      rw [if_pos hne] at hR
      rw [← hR] at hne hA127 ⊢
      refine fails w127 c2 _ hne hA127 hB127 hR127 hx127 fun y v' h1 h2 => ⟨?_, h1, h2⟩
      rw [if_neg hne]
     ·have he := nd_f he
      rw [if_neg (by rw [he]; simp)] at hR
      obtain ⟨m5, m6, m7, m8, m9, m10⟩ := jc_cell hl2 hB127
      refine ⟨jc c2 frm room J.seq J.data J.count J.broken, jc_len hl2, hB127.at (by rw [List.drop_zero, List.take_length]), (J.seq : Int), by rw [add_plain]; exact m7, ?_⟩
      have e1 : IntKind.u64.wrap ((J.seq : Int) + 1) = ((J.seq + 1 : Nat) : Int) := by rw [wu64_eq (by omega) (by omega)]; omega
      show cR _ _ _ _ _ _
      rw [e1]
      refine cR_of (rhead_ok (J := J) ⟨c2, rfl, hA127⟩ hwF hbF (hBn' hs127) hfr (J.seq + 1) (by omega) A (by omega)) ?_
      rintro ⟨x135, e135⟩ w136 ⟨he135, hA136, hx136⟩
      simp only at he135 hA136
      rw [← hR] at he135 hA136
      subst he135
      have hl135 := hA136.len
      refine stA_blk (hB127.ext hx136) hl135 (by rw [jc_len hl2]; decide) hA136.one fun w137 hB137 hf137 => ?_
      rw [splice_all hl135 (jc_len hl2)] at hB137
      have hx137 : Ext w w137 := hf137.ext (hx127.trans hx136) fun k _ e => by rw [e]; exact hwb1
      have hA137 := hA136.foot hf137 hBb1
      have hR137 := (hR127.ext hx136).fr hf137 (by omega)
      refine jn_of fun k3 hk3 => ⟨fun h0 => ?_, fun h0 => ?_⟩
      ·have h0 := of_decide_eq_true h0
       have h0 : R.2 = 0 := h0
       obtain ⟨c3, hc3, hA3⟩ := id hA137
       have hl3 := hA3.len
       unfold Lg.headed at hc3
       rw [if_pos h0] at hc3
       simp only at hc3
       rw [hc3] at hB137
       obtain ⟨n5, n6, n7, n8, n9, n10⟩ := jc_cell hl3 hB137
       refine ⟨(J.count : Int), by rw [add_plain]; exact n9, ?_⟩
       show st1 _ _ _ _
       rw [add_plain]
       refine st1_blk hB137 (by rw [jc_len hl3]; decide) fun w141 hB141 hf141 => ?_
       have e6 : IntKind.i64.wrap ((J.count : Int) + (p.len : Int)) = ((J.count + l.length : Nat) : Int) := by rw [w64_eq (by omega) (by omega)]; omega
       have e9 := (jc_set (frm := frm) (room := room) (seq := J.seq + 1) (data := A) (count := J.count) (br := J.broken) hl3 0 [] (J.count + l.length) true).2.2.1
       rw [e6, Nat.zero_add, e9] at hB141
       have hx141 : Ext w w141 := hf141.ext hx137 fun k _ e => by rw [e]; exact hwb1
       have hA141 := hA3.foot hf141 hBb1
       rw [hk3]
       refine ansJ (jc_len hl3) (jc_one hA141.one) hB141 (hR137.fr hf141 (by omega)) rfl fun w57 hf57 hB57 => ?_
       rw [if_pos h0]
       refine ⟨h0, back ⟨c3, ?_, hA141.foot hf57 hBb3⟩, hf57.ext hx141 fun k _ e => by rw [e]; exact hwb3⟩
       rw [hbr]
      ·have h0 := of_decide_eq_false h0
       have h0 : ¬ R.2 = 0 := h0
       rw [hk3]
       refine ansJ hl135 hA137.one hB137 hR137 rfl fun w57 hf57 hB57 => ?_
       rw [if_neg h0]
       refine ⟨rfl, ?_, hf57.ext hx137 fun k _ e => by rw [e]; exact hwb3⟩
       have := hA137.foot hf57 hBb3
       unfold Lg.headed at this
       rw [if_neg h0] at this
       exact back this
 refine ⟨fun hlt => ?_, fun hge => key1 false ⟨fun h => absurd h (by decide), fun hh => absurd (of_decide_eq_false hge) (by omega)⟩⟩
 have hlt := of_decide_eq_true hlt
 refine ⟨(room : Int), by rw [add_plain]; exact d6, key1 _ ?_⟩
 rw [decide_eq_true_iff]
 omega
end Go.Proofs.Ytagkcbbbdlmcjaa
end
section
/- The typed readings of the functions, and that the program meets each: written by gen.py (a program of this session). -/
namespace Go.Proofs.Ytagkcbbbdlmcjaa
open Go.Lift
set_option maxRecDepth 100000 in
set_option maxHeartbeats 4000000 in
theorem s55_calls (K : List Value × Sl × Int → World → Prop) (p0 : List Value) (p1 : Int) (p2 : Int) (w : World) (h : s55 K p0 p1 p2 w) :
  Calls Try.prog 55 #[aggv p0, .int .i64 p1, .int .i64 p2] w (Ret r55 K) := by
 unfold s55 at h
 refine calls_of_CW (n := 90) Try.func55 rfl rfl rfl ?_
 refine CW.seq ?_
 refine CW.region ?_
 obtain ⟨b1, hb1_⟩ : ∃ b_, b_ = w.heap.size := ⟨_, rfl⟩
 obtain ⟨w2, hw2_⟩ : ∃ w_, w_ = w.alloc (.cells (List.toArray p0) 49) := ⟨_, rfl⟩
 have h := h b1 w2 hb1_ hw2_
 refine RL.opS trivial rfl (OpW.boxE (cs := p0) (rfl) hb1_ hw2_ ?_)
 obtain ⟨b3, hb3_⟩ : ∃ b_, b_ = w2.heap.size := ⟨_, rfl⟩
 obtain ⟨w4, hw4_⟩ : ∃ w_, w_ = w2.alloc (.cells (List.toArray [Value.slice none 0 0, Value.slice none 0 0, Value.slice none 0 0, Value.int .i64 0, Value.bool false, Value.int .i64 0, Value.int .i64 0, Value.int .u64 0, str [], Value.int .i64 0, Value.bool false]) 52) := ⟨_, rfl⟩
 have h := h b3 w4 hb3_ hw4_
 refine RL.opS trivial rfl (OpW.allocE (b := b3) zero_52 hb3_ hw4_ ?_)
 refine RL.opS trivial rfl (OpW.assign (v := Sl.v nilSl) rfl ?_)
 refine RL.opS trivial rfl (OpW.assign (v := .int .i64 0) rfl ?_)
 refine RL.nil ?_
 refine CW.seq ?_
 refine CW.region ?_
 obtain ⟨x5, h1, h2, h⟩ := h
 refine RL.opS trivial rfl (OpW.loadA agg_49 rfl h1 h2 ?_)
 refine RL.opS trivial rfl (OpW.move (v := .int .i64 p1) rfl ?_)
 refine RL.opS trivial rfl (OpW.move (v := .int .i64 p2) rfl ?_)
 refine RL.opS trivial rfl (OpW.bin (k := .i64) (a := p2) (b := 2) (v := .int .i64 (IntKind.i64.wrap (p2 - 2))) rfl rfl rfl ?_)
 refine RL.opS trivial rfl (OpW.bin (k := .i64) (a := (IntKind.i64.wrap (p2 - 2))) (b := 512) (v := .int .i64 (IntKind.i64.wrap ((IntKind.i64.wrap (p2 - 2)) * 512))) rfl rfl rfl ?_)
 obtain ⟨hl0_, h⟩ := h
 refine RL.opS trivial rfl (OpW.buildL (vs := [(0, aggv x5), (1, .int .i64 p1), (2, .int .i64 (IntKind.i64.wrap ((IntKind.i64.wrap (p2 - 2)) * 512)))]) (cs := (x5 ++ ([.int .i64 p1] : List Value) ++ ([.int .i64 (IntKind.i64.wrap ((IntKind.i64.wrap (p2 - 2)) * 512))] : List Value) ++ ([Value.int .u64 0] : List Value) ++ ([str []] : List Value) ++ ([Value.int .i64 0] : List Value) ++ ([Value.bool false] : List Value))) (by rfl) (fun w_ => (fun y0_ hy0_ => by obtain ⟨c0_0, c0_1, c0_2, c0_3, c0_4, rfl⟩ := list5 hy0_; kernel_rfl : ∀ (y0_ : List Value), y0_.length = 5 → (Instr.build 52 ([(0, aggv y0_), (1, .int .i64 p1), (2, .int .i64 (IntKind.i64.wrap ((IntKind.i64.wrap (p2 - 2)) * 512)))]).toArray).run Try.prog w_ = .ok (aggv (y0_ ++ ([.int .i64 p1] : List Value) ++ ([.int .i64 (IntKind.i64.wrap ((IntKind.i64.wrap (p2 - 2)) * 512))] : List Value) ++ ([Value.int .u64 0] : List Value) ++ ([str []] : List Value) ++ ([Value.int .i64 0] : List Value) ++ ([Value.bool false] : List Value))) w_) x5 hl0_) ?_)
 obtain ⟨hl_b6, ho_b6, h⟩ := h
 obtain ⟨b6, hb6_⟩ : ∃ b_, b_ = w4.heap.size := ⟨_, rfl⟩
 obtain ⟨w7, hw7_⟩ : ∃ w_, w_ = w4.alloc (.cells (List.toArray (x5 ++ ([.int .i64 p1] : List Value) ++ ([.int .i64 (IntKind.i64.wrap ((IntKind.i64.wrap (p2 - 2)) * 512))] : List Value) ++ ([Value.int .u64 0] : List Value) ++ ([str []] : List Value) ++ ([Value.int .i64 0] : List Value) ++ ([Value.bool false] : List Value))) 52) := ⟨_, rfl⟩
 have h := h b6 w7 hb6_ hw7_
 refine RL.opS trivial rfl (OpW.allocZ (b := b6) zero_52 hb6_ ?_)
 refine RL.opN trivial (OpW.storeF (zs := [Value.slice none 0 0, Value.slice none 0 0, Value.slice none 0 0, Value.int .i64 0, Value.bool false, Value.int .i64 0, Value.int .i64 0, Value.int .u64 0, str [], Value.int .i64 0, Value.bool false]) (cs := (x5 ++ ([.int .i64 p1] : List Value) ++ ([.int .i64 (IntKind.i64.wrap ((IntKind.i64.wrap (p2 - 2)) * 512))] : List Value) ++ ([Value.int .u64 0] : List Value) ++ ([str []] : List Value) ++ ([Value.int .i64 0] : List Value) ++ ([Value.bool false] : List Value))) size_52 rfl rfl hl_b6 (by decide) ho_b6 hb6_ hw7_ ?_)
 refine RL.nil ?_
 refine CW.seq ?_
 refine CW.seq ?_
 refine CW.region ?_
 refine RL.opS trivial rfl (OpW.fieldAddr field_49_4 rfl ?_)
 obtain ⟨x8, h1, h⟩ := h
 refine RL.opS trivial rfl (OpW.load1 (v := .bool x8) one_4 rfl h1 ?_)
 refine RL.nil ?_
 obtain ⟨ha, hc⟩ := h
 refine CW.cond (b := x8) rfl (fun hb9 => ?_) (fun hb9 => ?_)
 ·have h := ha hb9; clear ha hc
  refine CW.seq ?_
  refine CW.region ?_
  obtain ⟨x10, h1, h2, h⟩ := h
  refine RL.opS trivial rfl (OpW.loadA agg_52 rfl h1 h2 ?_)
  obtain ⟨g_, o_, e_, cur_, ha_, h1, h2, h3, h4, h⟩ := h
  obtain ⟨w11, hw11_⟩ : ∃ w_, w_ = w7.setRow g_ (cur_.toList.take o_ ++ x10 ++ cur_.toList.drop (o_ + List.length x10)).toArray := ⟨_, rfl⟩
  have h := h w11 hw11_
  refine RL.opN trivial (OpW.storeAE (cs := x10) size_52 rfl rfl ha_ h1 h2 h3 h4 hw11_ ?_)
  refine RL.opS trivial rfl (OpW.assign (v := Sl.v nilSl) rfl ?_)
  refine RL.opS trivial rfl (OpW.assign (v := .int .i64 6) rfl ?_)
  refine RL.nil ?_
  refine CW.ret ?_
  obtain ⟨x12, hc1, hc2, h⟩ := h
  exact ret_intro (res3c rfl agg_52 rfl hc1 hc2 rfl rfl) ⟨(x12, nilSl, 6), rfl, h⟩
 ·have h := hc hb9; clear ha hc
  refine CW.skip ?_
  refine CW.seq ?_
  refine CW.region ?_
  refine RL.opS trivial rfl (OpW.assign (v := .int .i64 0) rfl ?_)
  refine RL.nil ?_
  refine CW.seq ?_
  refine CW.seq ?_
  refine CW.region ?_
  refine RL.opS trivial rfl (OpW.assign (v := .int .i64 0) rfl ?_)
  refine RL.nil ?_
  refine CW.block ?_
  obtain ⟨I80, mu81, hI, hs⟩ := h
  refine CW.loop (σ := Int × Int) (fun s13 ρ => ρ 10 = .int .i64 s13.1 ∧ ρ 11 = .int .i64 s13.2 ∧ ρ 1 = .int .i64 p1 ∧ ρ 3 = .pointer (some ⟨b1, 0, none⟩) ∧ ρ 6 = .pointer (some ⟨b3, 0, none⟩) ∧ ρ 9 = .pointer (some ⟨b6, 0, none⟩)) I80 mu81 (0, 0) ⟨rfl, rfl, rfl, rfl, rfl, rfl⟩ hI ?_
  rintro s13 ρ w14 ⟨e16, e17, e18, e19, e20, e21⟩ hI
  have h := hs s13 w14 hI
  clear hs hI
  refine CW.seq ?_
  refine CW.seq ?_
  refine CW.region ?_
  refine RL.opS trivial rfl (OpW.move (v := .int .i64 s13.2) e17 ?_)
  refine RL.opS trivial rfl (OpW.bin (k := .i64) (a := s13.2) (b := 2) (v := .bool (decide (s13.2 < 2))) rfl rfl rfl ?_)
  refine RL.nil ?_
  obtain ⟨ha, hc⟩ := h
  refine CW.cond (b := (decide (s13.2 < 2))) rfl (fun hb22 => ?_) (fun hb22 => ?_)
  ·have h := ha hb22; clear ha hc
   refine CW.skip ?_
   refine jn_elim h ?_; clear h; intro k44 hk45 h
   refine CW.seqJ (A := Int) (fun s36 ρ => ρ 10 = .int .i64 s36 ∧ ρ 1 = .int .i64 p1 ∧ ρ 3 = .pointer (some ⟨b1, 0, none⟩) ∧ ρ 6 = .pointer (some ⟨b3, 0, none⟩) ∧ ρ 9 = .pointer (some ⟨b6, 0, none⟩) ∧ ρ 11 = .int .i64 s13.2) k44 ?_ ?_
   ·rintro s36 ρ w37 ⟨e38, e39, e40, e41, e42, e43⟩ h
    subst hk45
    refine CW.region ?_
    refine RL.opS trivial rfl (OpW.move (v := .int .i64 s13.2) e43 ?_)
    refine RL.opS trivial rfl (OpW.bin (k := .i64) (a := s13.2) (b := 1) (v := .int .i64 (IntKind.i64.wrap (s13.2 + 1))) rfl rfl rfl ?_)
    refine RL.opS trivial rfl (OpW.assign (v := .int .i64 (IntKind.i64.wrap (s13.2 + 1))) rfl ?_)
    refine RL.nil ?_
    exact ⟨(s36, (IntKind.i64.wrap (s13.2 + 1))), ⟨e38, rfl, e39, e40, e41, e42⟩, h⟩
   ·clear hk45
    refine CW.block ?_
    refine CW.seq ?_
    obtain ⟨w24, hw24_⟩ : ∃ w_, w_ = w14.drew := ⟨_, rfl⟩
    have h := h w24 hw24_
    have hx25 : Ext w14 w24 := by rw [hw24_]; exact Ext.drew _
    refine CW.draws (m := 13) (listed := #[F,F,F,F,F,F,F,F,F,F,F,F,F]) mixed [0, 1, 2, 3, 4, 5, 6, 8, 9, 10, 11, 12] (Ext w14) rfl rfl ?_
    rw [← hw24_]
    obtain ⟨x26, h1, h2, h⟩ := h
    refine DL.takeK (listed' := #[T,F,F,F,F,F,F,F,F,F,F,F,F]) (v := aggv x26) 0 rfl rfl (by kernel_rfl) (by kernel_rfl) rfl trivial rfl hx25 (fun w_ hS_ K_ h_ => OpW.loadA agg_49 e19 h1 (hS_.at h2) h_) ?_
    refine DL.takeP (listed' := #[T,T,F,F,F,F,F,F,F,F,F,F,F]) (v := .int .i64 p1) 1 rfl rfl (by kernel_rfl) rfl trivial rfl (fun w_ K_ h_ => OpW.move (v := .int .i64 p1) e18 h_) ?_
    refine DL.takeP (listed' := #[T,T,T,F,F,F,F,F,F,F,F,F,F]) (v := .int .i64 s13.2) 2 rfl rfl (by kernel_rfl) rfl trivial rfl (fun w_ K_ h_ => OpW.move (v := .int .i64 s13.2) e17 h_) ?_
    refine DL.takeP (listed' := #[T,T,T,T,F,F,F,F,F,F,F,F,F]) (v := .int .i64 (IntKind.i64.wrap (p1 + s13.2))) 3 rfl rfl (by kernel_rfl) rfl trivial rfl (fun w_ K_ h_ => OpW.bin (k := .i64) (a := p1) (b := s13.2) (v := .int .i64 (IntKind.i64.wrap (p1 + s13.2))) rfl rfl rfl h_) ?_
    refine DL.takeP (listed' := #[T,T,T,T,F,T,F,F,F,F,F,F,F]) (v := .pointer (some (Addr.add ⟨b6, 0, none⟩ 6))) 5 rfl rfl (by kernel_rfl) rfl trivial rfl (fun w_ K_ h_ => OpW.fieldAddr field_52_2 e21 h_) ?_
    obtain ⟨x27, h1, h⟩ := h
    refine DL.takeK (listed' := #[T,T,T,T,F,T,T,F,F,F,F,F,F]) (v := .int .i64 x27) 6 rfl rfl (by kernel_rfl) (by kernel_rfl) rfl trivial rfl hx25 (fun w_ hS_ K_ h_ => OpW.load1 (v := .int .i64 x27) one_3 rfl (hS_.cell h1) h_) ?_
    refine DL.execS (listed' := #[T,T,T,T,T,T,T,F,F,F,F,F,F]) 4 rfl (by kernel_rfl) rfl trivial rfl (OpW.callR (al := [aggv x26, .int .i64 (IntKind.i64.wrap (p1 + s13.2))]) Try.func29 fb_29 fn_29 rfl h (fun x28 w29 h => ?_))
    obtain ⟨hx30, h⟩ := h
    refine ⟨(fun _ _ => hx30), ?_⟩
    refine DL.execS (listed' := #[T,T,T,T,T,T,T,T,F,F,F,F,F]) 7 rfl (by kernel_rfl) rfl trivial rfl (OpW.callR (al := [str x28, .int .i64 x27]) Try.func79 fb_79 fn_79 rfl h (fun x31 w32 h => ?_))
    refine ⟨(fun h_ => absurd h_ (by decide)), ?_⟩
    refine DL.takeP (listed' := #[T,T,T,T,T,T,T,T,T,F,F,F,F]) (v := .tuple #[.int .u64 x31.1, .int .i64 x31.2]) 8 rfl rfl (by kernel_rfl) rfl trivial rfl (fun w_ K_ h_ => OpW.move (v := .tuple #[.int .u64 x31.1, .int .i64 x31.2]) rfl h_) ?_
    refine DL.takeP (listed' := #[T,T,T,T,T,T,T,T,T,T,F,F,F]) (v := .int .u64 x31.1) 9 rfl rfl (by kernel_rfl) rfl trivial rfl (fun w_ K_ h_ => OpW.extract (v := .int .u64 x31.1) rfl rfl h_) ?_
    refine DL.takeP (listed' := #[T,T,T,T,T,T,T,T,T,T,T,F,F]) (v := .int .i64 x31.2) 10 rfl rfl (by kernel_rfl) rfl trivial rfl (fun w_ K_ h_ => OpW.extract (v := .int .i64 x31.2) rfl rfl h_) ?_
    refine DL.takeP (listed' := #[T,T,T,T,T,T,T,T,T,T,T,T,F]) (v := .int .u64 x31.1) 11 rfl rfl (by kernel_rfl) rfl trivial rfl (fun w_ K_ h_ => OpW.assign (v := .int .u64 x31.1) rfl h_) ?_
    refine DL.takeP (listed' := #[T,T,T,T,T,T,T,T,T,T,T,T,T]) (v := .int .i64 x31.2) 12 rfl rfl (by kernel_rfl) rfl trivial rfl (fun w_ K_ h_ => OpW.assign (v := .int .i64 x31.2) rfl h_) ?_
    refine DL.done (by kernel_rfl) ?_
    refine CW.seq ?_
    refine CW.region ?_
    refine RL.opS trivial rfl (OpW.move (v := .int .u64 x31.1) rfl ?_)
    refine RL.opS trivial rfl (OpW.fieldAddr field_52_3 e21 ?_)
    obtain ⟨x33, h1, h⟩ := h
    refine RL.opS trivial rfl (OpW.load1 (v := .int .u64 x33) one_25 rfl h1 ?_)
    refine RL.opS trivial rfl (OpW.bin (k := .u64) (a := x31.1) (b := x33) (v := .bool (decide (x33 < x31.1))) rfl rfl rfl ?_)
    refine RL.nil ?_
    obtain ⟨ha, hc⟩ := h
    refine CW.cond (b := (decide (x33 < x31.1))) rfl (fun hb34 => ?_) (fun hb34 => ?_)
    ·have h := ha hb34; clear ha hc
     refine CW.region ?_
     refine RL.opS trivial rfl (OpW.move (v := .int .u64 x31.1) rfl ?_)
     refine RL.opS trivial rfl (OpW.move (v := .int .i64 x31.2) rfl ?_)
     refine RL.opS trivial rfl (OpW.fieldAddr field_52_3 e21 ?_)
     obtain ⟨u_, h1, h2, h⟩ := h
     obtain ⟨w35, hw35_⟩ : ∃ w_, w_ = w32.setCell (Addr.add ⟨b6, 0, none⟩ 7) (.int .u64 x31.1) := ⟨_, rfl⟩
     have h := h w35 hw35_
     refine RL.opN trivial (OpW.store1E (v := .int .u64 x31.1) size_25 rfl rfl rfl h1 h2 hw35_ ?_)
     refine RL.opS trivial rfl (OpW.assign (v := .int .i64 x31.2) rfl ?_)
     refine RL.nil ?_
     exact ⟨x31.2, ⟨rfl, e18, e19, e20, e21, e17⟩, h⟩
    ·have h := hc hb34; clear ha hc
     refine CW.skip ?_
     exact ⟨s13.1, ⟨e16, e18, e19, e20, e21, e17⟩, h⟩
  ·have h := hc hb22; clear ha hc
   refine CW.exit ?_
   refine CW.seq ?_
   refine CW.seq ?_
   refine CW.region ?_
   refine RL.opS trivial rfl (OpW.fieldAddr field_52_3 e21 ?_)
   obtain ⟨x46, h1, h⟩ := h
   refine RL.opS trivial rfl (OpW.load1 (v := .int .u64 x46) one_25 rfl h1 ?_)
   refine RL.opS trivial rfl (OpW.bin (k := .u64) (a := x46) (b := 0) (v := .bool (decide (x46 = 0))) rfl rfl rfl ?_)
   refine RL.nil ?_
   obtain ⟨ha, hc⟩ := h
   refine CW.cond (b := (decide (x46 = 0))) rfl (fun hb47 => ?_) (fun hb47 => ?_)
   ·have h := ha hb47; clear ha hc
    refine CW.seq ?_
    refine CW.region ?_
    obtain ⟨x48, h1, h2, h⟩ := h
    refine RL.opS trivial rfl (OpW.loadA agg_52 e21 h1 h2 ?_)
    refine RL.opS trivial rfl (OpW.callR (al := [aggv x48, .int .u64 1, str []]) Try.func80 fb_80 fn_80 rfl h (fun x49 w50 h => ?_))
    refine RL.opS trivial rfl (OpW.move (v := .tuple #[aggv x49.1, .int .i64 x49.2]) rfl ?_)
    refine RL.opS trivial rfl (OpW.extract (v := aggv x49.1) rfl rfl ?_)
    refine RL.opS trivial rfl (OpW.extract (v := .int .i64 x49.2) rfl rfl ?_)
    obtain ⟨hl_b51, ho_b51, h⟩ := h
    obtain ⟨b51, hb51_⟩ : ∃ b_, b_ = w50.heap.size := ⟨_, rfl⟩
    obtain ⟨w52, hw52_⟩ : ∃ w_, w_ = w50.alloc (.cells (List.toArray x49.1) 52) := ⟨_, rfl⟩
    have h := h b51 w52 hb51_ hw52_
    refine RL.opS trivial rfl (OpW.allocZ (b := b51) zero_52 hb51_ ?_)
    refine RL.opN trivial (OpW.storeF (zs := [Value.slice none 0 0, Value.slice none 0 0, Value.slice none 0 0, Value.int .i64 0, Value.bool false, Value.int .i64 0, Value.int .i64 0, Value.int .u64 0, str [], Value.int .i64 0, Value.bool false]) (cs := x49.1) size_52 rfl rfl hl_b51 (by decide) ho_b51 hb51_ hw52_ ?_)
    refine RL.opS trivial rfl (OpW.assign (v := .int .i64 x49.2) rfl ?_)
    refine RL.nil ?_
    refine CW.seq ?_
    refine CW.region ?_
    obtain ⟨x53, h1, h2, h⟩ := h
    refine RL.opS trivial rfl (OpW.loadA agg_52 rfl h1 h2 ?_)
    refine RL.opS trivial rfl (OpW.move (v := .int .i64 x49.2) rfl ?_)
    obtain ⟨g_, o_, e_, cur_, ha_, h1, h2, h3, h4, h⟩ := h
    obtain ⟨w54, hw54_⟩ : ∃ w_, w_ = w52.setRow g_ (cur_.toList.take o_ ++ x53 ++ cur_.toList.drop (o_ + List.length x53)).toArray := ⟨_, rfl⟩
    have h := h w54 hw54_
    refine RL.opN trivial (OpW.storeAE (cs := x53) size_52 e20 rfl ha_ h1 h2 h3 h4 hw54_ ?_)
    refine RL.opS trivial rfl (OpW.assign (v := Sl.v nilSl) rfl ?_)
    refine RL.opS trivial rfl (OpW.assign (v := .int .i64 x49.2) rfl ?_)
    refine RL.nil ?_
    refine CW.ret ?_
    obtain ⟨x55, hc1, hc2, h⟩ := h
    exact ret_intro (res3c rfl agg_52 e20 hc1 hc2 rfl rfl) ⟨(x55, nilSl, x49.2), rfl, h⟩
   ·have h := hc hb47; clear ha hc
    refine CW.skip ?_
    refine CW.seq ?_
    refine CW.region ?_
    refine RL.opS trivial rfl (OpW.assign (v := str []) rfl ?_)
    refine RL.nil ?_
    refine CW.seq ?_
    refine CW.seq ?_
    refine CW.region ?_
    refine RL.opS trivial rfl (OpW.assign (v := .int .i64 2) rfl ?_)
    refine RL.nil ?_
    refine CW.block ?_
    obtain ⟨I78, mu79, hI, hs⟩ := h
    refine CW.loop (σ := List UInt8 × Int) (fun s56 ρ => ρ 16 = str s56.1 ∧ ρ 17 = .int .i64 s56.2 ∧ ρ 1 = .int .i64 p1 ∧ ρ 3 = .pointer (some ⟨b1, 0, none⟩) ∧ ρ 6 = .pointer (some ⟨b3, 0, none⟩) ∧ ρ 9 = .pointer (some ⟨b6, 0, none⟩) ∧ ρ 10 = .int .i64 s13.1) I78 mu79 ([], 2) ⟨rfl, rfl, e18, e19, e20, e21, e16⟩ hI ?_
    rintro s56 ρ w57 ⟨e59, e60, e61, e62, e63, e64, e65⟩ hI
    have h := hs s56 w57 hI
    clear hs hI
    refine CW.seq ?_
    refine CW.seq ?_
    refine CW.region ?_
    refine RL.opS trivial rfl (OpW.move (v := str s56.1) e59 ?_)
    refine RL.opS trivial rfl (OpW.lenStr us_9 rfl ?_)
    refine RL.opS trivial rfl (OpW.move (v := .int .i64 s13.1) e65 ?_)
    refine RL.opS trivial rfl (OpW.bin (k := .i64) (a := (s56.1.length : Int)) (b := s13.1) (v := .bool (decide ((s56.1.length : Int) < s13.1))) rfl rfl rfl ?_)
    refine RL.nil ?_
    obtain ⟨ha, hc⟩ := h
    refine CW.cond (b := (decide ((s56.1.length : Int) < s13.1))) rfl (fun hb66 => ?_) (fun hb66 => ?_)
    ·have h := ha hb66; clear ha hc
     refine CW.skip ?_
     refine CW.seq ?_
     refine CW.block ?_
     refine CW.region ?_
     refine RL.opS trivial rfl (OpW.move (v := str s56.1) e59 ?_)
     obtain ⟨x67, h1, h2, h⟩ := h
     refine RL.opS trivial rfl (OpW.loadA agg_49 e62 h1 h2 ?_)
     refine RL.opS trivial rfl (OpW.move (v := .int .i64 p1) e61 ?_)
     refine RL.opS trivial rfl (OpW.move (v := .int .i64 s56.2) e60 ?_)
     refine RL.opS trivial rfl (OpW.bin (k := .i64) (a := p1) (b := s56.2) (v := .int .i64 (IntKind.i64.wrap (p1 + s56.2))) rfl rfl rfl ?_)
     refine RL.opS trivial rfl (OpW.callR (al := [aggv x67, .int .i64 (IntKind.i64.wrap (p1 + s56.2))]) Try.func29 fb_29 fn_29 rfl h (fun x68 w69 h => ?_))
     obtain ⟨hq_, h⟩ := h
     refine RL.opS trivial rfl (OpW.strAdd rfl rfl hq_ ?_)
     refine RL.opS trivial rfl (OpW.assign (v := str (s56.1 ++ x68)) rfl ?_)
     refine RL.nil ?_
     refine CW.region ?_
     refine RL.opS trivial rfl (OpW.move (v := .int .i64 s56.2) e60 ?_)
     refine RL.opS trivial rfl (OpW.bin (k := .i64) (a := s56.2) (b := 1) (v := .int .i64 (IntKind.i64.wrap (s56.2 + 1))) rfl rfl rfl ?_)
     refine RL.opS trivial rfl (OpW.assign (v := .int .i64 (IntKind.i64.wrap (s56.2 + 1))) rfl ?_)
     refine RL.nil ?_
     exact ⟨((s56.1 ++ x68), (IntKind.i64.wrap (s56.2 + 1))), ⟨rfl, rfl, e61, e62, e63, e64, e65⟩, h⟩
    ·have h := hc hb66; clear ha hc
     refine CW.exit ?_
     refine CW.seq ?_
     refine CW.region ?_
     refine RL.opS trivial rfl (OpW.move (v := str s56.1) e59 ?_)
     refine RL.opS trivial rfl (OpW.move (v := .int .i64 s13.1) e65 ?_)
     obtain ⟨⟨h1, h2, h3⟩, h⟩ := h
     refine RL.opS trivial rfl (OpW.sliceStr (l := 0) (h := s13.1) str_9 rfl rfl ⟨_, rfl⟩ h1 h2 h3 ?_)
     refine RL.opS trivial rfl (OpW.fieldAddr field_52_4 e64 ?_)
     obtain ⟨u_, h1, h2, h⟩ := h
     obtain ⟨w70, hw70_⟩ : ∃ w_, w_ = w57.setCell (Addr.add ⟨b6, 0, none⟩ 8) (str ((s56.1.take (Int.toNat s13.1)).drop (Int.toNat 0))) := ⟨_, rfl⟩
     have h := h w70 hw70_
     refine RL.opN trivial (OpW.store1E (v := str ((s56.1.take (Int.toNat s13.1)).drop (Int.toNat 0))) size_9 rfl rfl rfl h1 h2 hw70_ ?_)
     refine RL.nil ?_
     refine CW.seq ?_
     refine CW.region ?_
     refine RL.opS trivial rfl (OpW.fieldAddr field_52_4 e64 ?_)
     obtain ⟨x71, h1, h⟩ := h
     refine RL.opS trivial rfl (OpW.load1 (v := str x71) one_9 rfl h1 ?_)
     refine RL.opS trivial rfl (OpW.callR (al := [str x71]) Try.func81 fb_81 fn_81 rfl h (fun x72 w73 h => ?_))
     refine RL.opS trivial rfl (OpW.move (v := .tuple #[Sl.v x72.1, .int .i64 x72.2]) rfl ?_)
     refine RL.opS trivial rfl (OpW.extract (v := Sl.v x72.1) rfl rfl ?_)
     refine RL.opS trivial rfl (OpW.extract (v := .int .i64 x72.2) rfl rfl ?_)
     refine RL.opS trivial rfl (OpW.assign (v := Sl.v x72.1) rfl ?_)
     refine RL.opS trivial rfl (OpW.assign (v := .int .i64 x72.2) rfl ?_)
     refine RL.nil ?_
     refine CW.seq ?_
     refine CW.region ?_
     refine RL.opS trivial rfl (OpW.move (v := Sl.v x72.1) rfl ?_)
     refine RL.opS trivial rfl (OpW.len (s := x72.1) slice_45 rfl ?_)
     refine RL.opS trivial rfl (OpW.fieldAddr field_52_5 e64 ?_)
     obtain ⟨u_, h1, h2, h⟩ := h
     obtain ⟨w74, hw74_⟩ : ∃ w_, w_ = w73.setCell (Addr.add ⟨b6, 0, none⟩ 9) (.int .i64 (x72.1.len : Int)) := ⟨_, rfl⟩
     have h := h w74 hw74_
     refine RL.opN trivial (OpW.store1E (v := .int .i64 (x72.1.len : Int)) size_3 rfl rfl rfl h1 h2 hw74_ ?_)
     refine RL.nil ?_
     refine CW.seq ?_
     refine CW.region ?_
     obtain ⟨x75, h1, h2, h⟩ := h
     refine RL.opS trivial rfl (OpW.loadA agg_52 e64 h1 h2 ?_)
     refine RL.opS trivial rfl (OpW.move (v := Sl.v x72.1) rfl ?_)
     refine RL.opS trivial rfl (OpW.move (v := .int .i64 x72.2) rfl ?_)
     obtain ⟨g_, o_, e_, cur_, ha_, h1, h2, h3, h4, h⟩ := h
     obtain ⟨w76, hw76_⟩ : ∃ w_, w_ = w74.setRow g_ (cur_.toList.take o_ ++ x75 ++ cur_.toList.drop (o_ + List.length x75)).toArray := ⟨_, rfl⟩
     have h := h w76 hw76_
     refine RL.opN trivial (OpW.storeAE (cs := x75) size_52 e63 rfl ha_ h1 h2 h3 h4 hw76_ ?_)
     refine RL.opS trivial rfl (OpW.assign (v := Sl.v x72.1) rfl ?_)
     refine RL.opS trivial rfl (OpW.assign (v := .int .i64 x72.2) rfl ?_)
     refine RL.nil ?_
     refine CW.ret ?_
     obtain ⟨x77, hc1, hc2, h⟩ := h
     exact ret_intro (res3c rfl agg_52 e63 hc1 hc2 rfl rfl) ⟨(x77, x72.1, x72.2), rfl, h⟩
end Go.Proofs.Ytagkcbbbdlmcjaa
end
section
/- The document's journal: an opening. -/
namespace Go.Proofs.Ytagkcbbbdlmcjaa
open Go.Lift Go.Lift.Disk Go.Lift.Crc Go.Lift.Wal Go.RowKit
/-- what the document's opening answers -/
def ROpenR (base : Nat) (w' : World) (B : Nat → Prop) (frm room : Nat) (x : List Value × Sl × Int) : Dk × Opened → Prop
 | (D', .fails e) => x.2.2 = e ∧ e ≠ 0 ∧ ∃ J, LgWf J frm room ∧ JAt w' B x.1 D' frm room J
 | (D', .is L rs) => x.2.2 = 0 ∧ JAt w' B x.1 D' frm room L ∧ Own w' base 9 1 x.2.1 (txts rs) ∧ x.2.1.len = rs.length
theorem ROpenR.ext {base : Nat} {w w' : World} {B : Nat → Prop} {frm room : Nat} {x : List Value × Sl × Int} {r : Dk × Opened} (h : ROpenR base w B frm room x r) (hx : Ext w w') : ROpenR base w' B frm room x r := by
 obtain ⟨D', r⟩ := r
 cases r with
 | fails e =>
  obtain ⟨h1, h2, J, h3, h4⟩ := h
  exact ⟨h1, h2, J, h3, h4.ext hx⟩
 | is L rs =>
  obtain ⟨h1, h2, h3, h4⟩ := h
  exact ⟨h1, h2.ext hx, h3.ext hx, h4⟩
theorem ROpenR.lower {base base' : Nat} {w : World} {B : Nat → Prop} {frm room : Nat} {x : List Value × Sl × Int} {r : Dk × Opened} (h : ROpenR base w B frm room x r) (hb : base' ≤ base) : ROpenR base' w B frm room x r := by
 obtain ⟨D', r⟩ := r
 cases r with
 | fails e => exact h
 | is L rs =>
  obtain ⟨h1, h2, h3, h4⟩ := h
  exact ⟨h1, h2, Own.lower h3 hb, h4⟩
theorem jc_parts (cs : List Value) (a b c d e f : Value) : cs ++ ([a] : List Value) ++ ([b] : List Value) ++ ([c] : List Value) ++ ([d] : List Value) ++ ([e] : List Value) ++ ([f] : List Value) = cs ++ [a, b, c, d, e, f] := by
 simp only [List.append_assoc, List.cons_append, List.nil_append]
theorem ropen_ok {w : World} {B : Nat → Prop} {cs : List Value} {D : Dk} {n k : Nat} (h : RAt w B cs D) (hwf : D.Wf) (hP : Play n k D) (hk : k < 100000) (hBn : ∀ k, w.heap.size ≤ k → B k) (frm blocks : Nat) (h3 : 3 ≤ blocks) (hfit : frm + blocks ≤ n) (hn : n ≤ 4096) :
  Calls Try.prog 55 #[aggv cs, .int .i64 (frm : Int), .int .i64 (blocks : Int)] w (Ret r55 fun x w' => Ext w w' ∧ ROpenR w.heap.size w' B frm (roomOf blocks) x (openD D frm (roomOf blocks))) := by
 apply s55_calls
 have hcl := h.len
 have hPl := hP.len
 intro b1 w2 hb1 hw2
 have hx2 : Ext w w2 := Ext.new hw2
 have hB2 : Blk w2 b1 49 cs := Blk.new hb1 hw2
 intro b3 w4 hb3 hw4
 have hx4 : Ext w2 w4 := Ext.new hw4
 have hR4 : Blk w4 b3 52 jz := Blk.new hb3 hw4
 have hB4 := hB2.ext hx4
 have hxw4 := hx2.trans hx4
 have h13 : b1 < b3 := by rw [hb3]; exact hB2.lt
 have hb3l := hR4.lt
 have hwb3 : w.heap.size ≤ b3 := by rw [hb3]; exact hx2.size
 refine ⟨cs, hcl, hB4.at (by rw [List.drop_zero, List.take_length]), hcl, ?_⟩
 have er : IntKind.i64.wrap (IntKind.i64.wrap ((blocks : Int) - 2) * 512) = ((roomOf blocks : Nat) : Int) := by
  rw [w64_eq (x := (blocks : Int) - 2) (by omega) (by omega), w64_eq (by omega) (by omega)]
  show _ = (((blocks - 2) * 512 : Nat) : Int)
  omega
 rw [er]
 obtain ⟨room, hroom⟩ : ∃ r, r = roomOf blocks := ⟨_, rfl⟩
 have hrl : room ≤ 2097152 ∧ room + 1024 = blocks * 512 := by rw [hroom]; unfold roomOf; omega
 rw [← hroom, jc_parts]
 have ej : cs ++ [Value.int .i64 (frm : Int), Value.int .i64 (room : Int), Value.int .u64 0, str [], Value.int .i64 0, Value.bool false] = jc cs frm room 0 [] 0 false := rfl
 rw [ej]
 refine ⟨jc_len hcl, jc_one h.one, fun b6 w7 hb6 hw7 => ?_⟩
 have hx7 : Ext w4 w7 := Ext.new hw7
 have hB6 : Blk w7 b6 52 (jc cs frm room 0 [] 0 false) := Blk.new hb6 hw7
 have hb6l := hB6.lt
 have h36 : b3 < b6 := by rw [hb6]; exact hb3l
 have hwb6 : w.heap.size ≤ b6 := by rw [hb6]; exact hxw4.size
 have hxw7 := hxw4.trans hx7
 obtain ⟨B', hB'⟩ : ∃ B' : Nat → Prop, B' = fun k => B k ∧ k ≠ b6 ∧ k ≠ b3 := ⟨_, rfl⟩
 have hA' : RAt w B' cs D := h.mono fun k hk hb => by rw [hB']; exact ⟨hb, by omega, by omega⟩
 have hBn' : ∀ {v : World}, w7.heap.size ≤ v.heap.size → ∀ k, v.heap.size ≤ k → B' k := by
  intro v hv k hk
  rw [hB']
  exact ⟨hBn k (Nat.le_trans hxw7.size (Nat.le_trans hv hk)), by omega, by omega⟩
 have hBb6 : ∀ k, B' k → ¬ k = b6 := fun k hk => by rw [hB'] at hk; exact hk.2.1
 have hBb3 : ∀ k, B' k → ¬ k = b3 := fun k hk => by rw [hB'] at hk; exact hk.2.2
 have back : ∀ {v : World} {ys : List Value} {E : Dk} {M : Lg}, JAt v B' ys E frm room M → JAt v B ys E frm room M := fun hv => hv.mono fun k _ hk => by rw [hB'] at hk; exact hk.1
 have hA7 := hA'.ext hxw7
 obtain ⟨ss, sp, sf, hcs, _⟩ := id h
 have hB7 := hB4.ext hx7
 have hR7 := hR4.ext hx7
 have hdown : w7.cell? (Addr.add ⟨b1, 0, none⟩ 4) = some (.bool D.down) := by
  rw [add_plain]
  exact hB7.cell (by rw [hcs]; rfl)
 unfold openD
 refine ⟨D.down, hdown, fun hd => ?_, fun hd => ?_⟩
 ·rw [if_pos hd]
  refine ansJ (jc_len hcl) (jc_one h.one) hB6 hR7 rfl fun w11 hf11 hB11 => ?_
  exact ⟨hf11.ext hxw7 fun k _ e => by rw [e]; exact hwb3, rfl, by decide, ⟨0, [], 0, false⟩, ⟨by omega, hrl.1, Nat.zero_le _, Nat.zero_le _, Nat.le_refl _⟩, back ⟨cs, rfl, hA7.foot hf11 hBb3⟩⟩
 rw [if_neg (by rw [hd]; simp), ← heads_two]
 -- the heads
 refine ⟨fun st w' => ∃ i : Nat, i ≤ 2 ∧ st.2 = (i : Int) ∧ st.1 = ((heads D frm room i).2 : Int) ∧ RAt w' B' cs D ∧ Blk w' b6 52 (jc cs frm room (heads D frm room i).1 [] 0 false) ∧ Blk w' b1 49 cs ∧ Blk w' b3 52 jz ∧ Ext w w' ∧ w7.heap.size ≤ w'.heap.size,
  fun st _ => 2 - st.2.toNat, ⟨0, by omega, rfl, rfl, hA7, hB6, hB7, hR7, hxw7, Nat.le_refl _⟩, ?_⟩
 rintro ⟨m, i⟩ w14 ⟨i, hi, rfl, rfl, hA14, hB14, hD14, hR14, hx14, hs14⟩
 obtain ⟨c5, c6, c7, c8, c9, c10⟩ := jc_cell hcl hB14
 have hle := heads_le D frm room i
 have hll : last = 4611686018427387904 := rfl
 refine ⟨fun hlt => ?_, fun hge => ?_⟩
 ·have hlt : i < 2 := by have := of_decide_eq_true hlt; simp only at this; omega
  refine jn_of fun k5 hk5 => ?_
  intro w24 hw24
  have hx24 : Ext w14 w24 := by subst hw24; exact Ext.drew _
  refine ⟨cs, hcl, hD14.at (by rw [List.drop_zero, List.take_length]), (room : Int), by rw [add_plain]; exact c6, ?_⟩
  have ei : IntKind.i64.wrap ((frm : Int) + (i : Int)) = ((frm + i : Nat) : Int) := by rw [w64_eq (by omega) (by omega)]; omega
  simp only
  rw [ei]
  have hin : frm + i < D.bl.length := by omega
  refine cR_of (now_ok w24 cs D (hA14.ext hx24) (by have := hP.pend; omega) (frm + i) hin) ?_
  rintro x28 w29 ⟨rfl, hx29⟩
  have enow : lastOf D.pend (frm + i) (bAt D.bl (frm + i)).2 = nowAt D (frm + i) := (hP.now (frm + i) (by omega)).symm
  rw [enow]
  have hx29' := hx24.trans hx29
  refine ⟨hx29', ?_⟩
  refine cR_of (rright_ok w29 (nowAt D (frm + i)) (bAt_len hwf.bl hin).1 room (by omega)) ?_
  rintro x31 w32 ⟨rfl, hx32⟩
  have hxx := hx29'.trans hx32
  have hB32 := hB14.ext hxx
  obtain ⟨d5, d6, d7, d8, d9, d10⟩ := jc_cell hcl hB32
  refine ⟨((heads D frm room i).1 : Int), by rw [add_plain]; exact d7, ?_⟩
  have e1 : IntKind.i64.wrap ((i : Int) + 1) = ((i + 1 : Nat) : Int) := by rw [w64_eq (by omega) (by omega)]; omega
  have hsz : w7.heap.size ≤ w32.heap.size := Nat.le_trans hs14 hxx.size
  refine ⟨fun hlt2 => ?_, fun hge2 => ?_⟩
  ·have hlt2 : (heads D frm room i).1 < (right (nowAt D (frm + i)) room).1 := by have := of_decide_eq_true hlt2; simp only at this; omega
   show st1 _ _ _ _
   rw [add_plain]
   refine st1_blk hB32 (by rw [jc_len hcl]; decide) fun w35 hB35 hf35 => ?_
   have e7 := (jc_set (frm := frm) (room := room) (seq := (heads D frm room i).1) (data := []) (count := 0) (br := false) hcl (right (nowAt D (frm + i)) room).1 [] 0 true).1
   rw [Nat.zero_add, e7] at hB35
   rw [hk5]
   simp only
   rw [e1]
   have eh : heads D frm room (i + 1) = right (nowAt D (frm + i)) room := by rw [heads, headStep, if_pos hlt2]
   refine ⟨⟨i + 1, by omega, rfl, by rw [eh], (hA14.ext hxx).foot hf35 hBb6, by rw [eh]; exact hB35, (hD14.ext hxx).fr hf35 (by omega), (hR14.ext hxx).fr hf35 (by omega), hf35.ext (hx14.trans hxx) fun k _ e => by rw [e]; exact hwb6, Nat.le_trans hsz hf35.size⟩, by omega⟩
  ·have hge2 : ¬ (heads D frm room i).1 < (right (nowAt D (frm + i)) room).1 := by have := of_decide_eq_false hge2; simp only at this; omega
   rw [hk5]
   simp only
   rw [e1]
   have eh : heads D frm room (i + 1) = heads D frm room i := by rw [heads, headStep, if_neg hge2]
   refine ⟨⟨i + 1, by omega, rfl, by rw [eh], hA14.ext hxx, by rw [eh]; exact hB32, hD14.ext hxx, hR14.ext hxx, hx14.trans hxx, hsz⟩, by omega⟩
 ·have hge : i = 2 := by have := of_decide_eq_false hge; simp only at this; omega
  subst hge
  obtain ⟨sq, hsq⟩ : ∃ s, s = (heads D frm room 2).1 := ⟨_, rfl⟩
  obtain ⟨m, hm⟩ : ∃ s, s = (heads D frm room 2).2 := ⟨_, rfl⟩
  rw [← hsq] at hB14 hle c7
  rw [← hm] at hle
  simp only [← hsq, ← hm]
  refine ⟨(sq : Int), by rw [add_plain]; exact c7, ?_⟩
  refine ⟨fun h0 => ?_, fun hne => ?_⟩
  ·have h0 : sq = 0 := by have := of_decide_eq_true h0; omega
   subst h0
   rw [if_pos rfl]
   have hJ14 : JAt w14 B' (jc cs frm room 0 [] 0 false) D frm room ⟨0, [], 0, false⟩ := ⟨cs, rfl, hA14⟩
   refine ⟨_, hJ14.len, hB14.at (by rw [List.drop_zero, List.take_length]), ?_⟩
   refine cR_of (rhead_ok hJ14 hwf ⟨by have := hP.ch; omega, by have := hP.pend; omega⟩ (hBn' hs14) (by omega) 1 (by decide) [] (by simp)) ?_
   rintro ⟨x49, e49⟩ w50 ⟨he49, hJ50, hx50⟩
   simp only [List.length_nil] at he49 hJ50
   subst he49
   refine ⟨hJ50.len, hJ50.one, fun b51 w52 hb51 hw52 => ?_⟩
   have hx52 : Ext w50 w52 := Ext.new hw52
   have hB52 : Blk w52 b51 52 x49 := Blk.new hb51 hw52
   have hxx := hx50.trans hx52
   have hJ52 := hJ50.ext hx52
   refine ansJ hJ52.len hJ52.one hB52 (hR14.ext hxx) rfl fun w54 hf54 hB54 => ?_
   refine ⟨hf54.ext (hx14.trans hxx) fun k _ e => by rw [e]; exact hwb3, ?_⟩
   have hJ54 := hJ52.foot hf54 hBb3
   by_cases he : (headW D frm 1 0).2 = 0
   ·rw [if_pos he]
    unfold Lg.headed at hJ54
    rw [if_pos he] at hJ54
    exact ⟨he, back hJ54, Own.nil _ _ _ _, rfl⟩
   ·rw [if_neg he]
    refine ⟨rfl, he, _, ?_, back hJ54⟩
    unfold Lg.headed
    rw [if_neg he]
    exact ⟨by omega, hrl.1, Nat.zero_le _, Nat.zero_le _, Nat.le_refl _⟩
  ·have hne : sq ≠ 0 := by have := of_decide_eq_false hne; omega
   rw [if_neg hne]
   refine ⟨fun st w' => ∃ q : Nat, q ≤ (m + 511) / 512 ∧ st.2 = ((2 + q : Nat) : Int) ∧ st.1 = blocksOf D frm q ∧ (blocksOf D frm q).length = 512 * q ∧ Ext w14 w',
    fun st _ => m + 512 - st.1.length, ⟨0, Nat.zero_le _, rfl, rfl, rfl, Ext.refl _⟩, ?_⟩
   rintro ⟨all, j⟩ w57 ⟨q, hq, rfl, rfl, hbl, hx57⟩
   simp only
   have hB57 := hB14.ext hx57
   refine ⟨fun hlt => ?_, fun hge => ?_⟩
   ·have hlt : 512 * q < m := by have := of_decide_eq_true hlt; omega
    refine ⟨cs, hcl, (hD14.ext hx57).at (by rw [List.drop_zero, List.take_length]), ?_⟩
    have ei : IntKind.i64.wrap ((frm : Int) + ((2 + q : Nat) : Int)) = ((frm + 2 + q : Nat) : Int) := by rw [w64_eq (by omega) (by omega)]; omega
    rw [ei]
    have hin : frm + 2 + q < D.bl.length := by omega
    refine cR_of (now_ok w57 cs D (hA14.ext hx57) (by have := hP.pend; omega) (frm + 2 + q) hin) ?_
    rintro x68 w69 ⟨rfl, hx69⟩
    have enow : lastOf D.pend (frm + 2 + q) (bAt D.bl (frm + 2 + q)).2 = nowAt D (frm + 2 + q) := (hP.now (frm + 2 + q) (by omega)).symm
    rw [enow]
    have hnl : (nowAt D (frm + 2 + q)).length = 512 := (bAt_len hwf.bl hin).1
    have e1 : IntKind.i64.wrap (((2 + q : Nat) : Int) + 1) = ((2 + (q + 1) : Nat) : Int) := by rw [w64_eq (by omega) (by omega)]; omega
    rw [e1]
    refine ⟨by omega, ⟨q + 1, by omega, rfl, (blocksOf_succ D frm q).symm, by rw [blocksOf_succ, List.length_append, hbl, hnl]; omega, hx57.trans hx69⟩, by rw [List.length_append, hnl]; omega⟩
   ·have hge : m ≤ 512 * q := by have := of_decide_eq_false hge; omega
    have hqq : q = (m + 511) / 512 := by omega
    have hda : dataOf D frm m = (blocksOf D frm q).take m := by unfold dataOf; rw [← hqq]
    refine ⟨⟨by omega, by omega, by omega⟩, ?_⟩
    have ed : ((blocksOf D frm q).take (Int.toNat (m : Int))).drop (Int.toNat 0) = dataOf D frm m := by rw [Int.toNat_natCast, hda]; rfl
    rw [ed]
    show st1 _ _ _ _
    rw [add_plain]
    refine st1_blk hB57 (by rw [jc_len hcl]; decide) fun w70 hB70 hf70 => ?_
    have e8 := (jc_set (frm := frm) (room := room) (seq := sq) (data := []) (count := 0) (br := false) hcl 0 (dataOf D frm m) 0 true).2.1
    rw [Nat.zero_add, e8] at hB70
    have hx70 : Ext w w70 := hf70.ext (hx14.trans hx57) fun k _ e => by rw [e]; exact hwb6
    have hA70 := (hA14.ext hx57).foot hf70 hBb6
    have hR70 := (hR14.ext hx57).fr hf70 (by omega)
    obtain ⟨d5, d6, d7, d8, d9, d10⟩ := jc_cell hcl hB70
    refine ⟨dataOf D frm m, by rw [Nat.zero_add]; exact d8, ?_⟩
    have hdl : (dataOf D frm m).length ≤ m := by rw [hda, List.length_take]; omega
    refine cR_of (rrecords_ok w70 (dataOf D frm m) (by omega)) ?_
    rintro ⟨x72a, x72b⟩ w73 ⟨he72, ho72, hl72, hx73⟩
    simp only at he72 ho72 hl72
    subst he72
    have hB73 := hB70.ext hx73
    show st1 _ _ _ _
    rw [add_plain]
    refine st1_blk hB73 (by rw [jc_len hcl]; decide) fun w74 hB74 hf74 => ?_
    have e9 := (jc_set (frm := frm) (room := room) (seq := sq) (data := dataOf D frm m) (count := 0) (br := false) hcl 0 [] (parse (dataOf D frm m)).1.length true).2.2.1
    rw [hl72, Nat.zero_add, e9] at hB74
    have hx74 : Ext w w74 := hf74.ext (hx70.trans hx73) fun k _ e => by rw [e]; exact hwb6
    have hA74 := (hA70.ext hx73).foot hf74 hBb6
    have hR74 := (hR70.ext hx73).fr hf74 (by omega)
    refine ansJ (jc_len hcl) (jc_one hA74.one) hB74 hR74 rfl fun w76 hf76 hB76 => ?_
    refine ⟨hf76.ext hx74 fun k _ e => by rw [e]; exact hwb3, ?_⟩
    have hA76 := hA74.foot hf76 hBb3
    have hJ76 : JAt w76 B (jc cs frm room sq (dataOf D frm m) (parse (dataOf D frm m)).1.length false) D frm room ⟨sq, dataOf D frm m, (parse (dataOf D frm m)).1.length, false⟩ := back ⟨cs, rfl, hA76⟩
    by_cases he : (parse (dataOf D frm m)).2 = 0
    ·rw [if_pos he]
     refine ⟨he, hJ76, ?_, hl72⟩
     -- the texts' row was made behind both blocks
     have far : ∀ {u v : World} {g : Nat}, g < w70.heap.size → Fr (· = g) u v → Own u w70.heap.size 9 1 x72a (txts (parse (dataOf D frm m)).1) → Own v w70.heap.size 9 1 x72a (txts (parse (dataOf D frm m)).1) := by
      intro u v g hg hf ho
      refine hf.own (fun b hb e => ?_) ho
      have e : b.block = g := e
      have := Own.ge5 ho b hb
      omega
     have hs70 := hB70.lt
     exact Own.lower (far (by omega) hf76 (far (by omega) hf74 ho72)) hx70.size
    ·rw [if_neg he]
     exact ⟨rfl, he, _, ⟨by omega, hrl.1, hle.1, by show (dataOf D frm m).length ≤ room; omega, parse_count _⟩, hJ76⟩
end Go.Proofs.Ytagkcbbbdlmcjaa
end
section
/- The typed readings of the functions, and that the program meets each: written by gen.py (a program of this session). -/
namespace Go.Proofs.Ytagkcbbbdlmcjaa
open Go.Lift
set_option maxRecDepth 100000 in
set_option maxHeartbeats 4000000 in
theorem s25_calls (K : Bool → World → Prop) (p0 : Option Addr) (p1 : Int) (w : World) (h : s25 K p0 p1 w) :
  Calls Try.prog 25 #[.pointer p0, .int .i64 p1] w (Ret r25 K) := by
 unfold s25 at h
 refine calls_of_CW (n := 75) Try.func25 rfl rfl rfl ?_
 refine CW.seq ?_
 refine CW.region ?_
 refine RL.opS trivial rfl (OpW.assign (v := .bool false) rfl ?_)
 refine RL.nil ?_
 refine CW.seq ?_
 obtain ⟨w1, hw1_⟩ : ∃ w_, w_ = w.drew := ⟨_, rfl⟩
 have h := h w1 hw1_
 have hx2 : Ext w w1 := by rw [hw1_]; exact Ext.drew _
 refine CW.draws (m := 18) (listed := #[F,F,F,F,F,F,F,F,F,F,F,F,F,F,F,F,F,F]) mixed [0, 1, 2, 3, 4, 5, 6, 7, 8, 9, 11, 12, 13, 14, 15, 16, 17] (Ext w) rfl rfl ?_
 rw [← hw1_]
 refine DL.takeP (listed' := #[T,F,F,F,F,F,F,F,F,F,F,F,F,F,F,F,F,F]) (v := .pointer p0) 0 rfl rfl (by kernel_rfl) rfl trivial rfl (fun w_ K_ h_ => OpW.move (v := .pointer p0) rfl h_) ?_
 obtain ⟨a3, ha4, h⟩ := h
 refine DL.takeP (listed' := #[T,T,F,F,F,F,F,F,F,F,F,F,F,F,F,F,F,F]) (v := .pointer (some a3)) 1 rfl rfl (by kernel_rfl) rfl trivial rfl (fun w_ K_ h_ => OpW.nilCheck (a := a3) (congrArg Value.pointer ha4) h_) ?_
 refine DL.takeP (listed' := #[T,T,T,F,F,F,F,F,F,F,F,F,F,F,F,F,F,F]) (v := .pointer (some (Addr.add a3 0))) 2 rfl rfl (by kernel_rfl) rfl trivial rfl (fun w_ K_ h_ => OpW.fieldAddr (off := 0) field_54_0 rfl h_) ?_
 obtain ⟨x5, h1, h⟩ := h
 refine DL.takeK (listed' := #[T,T,T,T,F,F,F,F,F,F,F,F,F,F,F,F,F,F]) (v := .pointer x5) 3 rfl rfl (by kernel_rfl) (by kernel_rfl) rfl trivial rfl hx2 (fun w_ hS_ K_ h_ => OpW.load1 (v := .pointer x5) one_31 rfl (hS_.cell h1) h_) ?_
 refine DL.takeP (listed' := #[T,T,T,T,T,F,F,F,F,F,F,F,F,F,F,F,F,F]) (v := .pointer p0) 4 rfl rfl (by kernel_rfl) rfl trivial rfl (fun w_ K_ h_ => OpW.move (v := .pointer p0) rfl h_) ?_
 obtain ⟨a6, ha7, h⟩ := h
 refine DL.takeP (listed' := #[T,T,T,T,T,T,F,F,F,F,F,F,F,F,F,F,F,F]) (v := .pointer (some a6)) 5 rfl rfl (by kernel_rfl) rfl trivial rfl (fun w_ K_ h_ => OpW.nilCheck (a := a6) (congrArg Value.pointer ha7) h_) ?_
 refine DL.takeP (listed' := #[T,T,T,T,T,T,T,F,F,F,F,F,F,F,F,F,F,F]) (v := .pointer (some (Addr.add a6 2))) 6 rfl rfl (by kernel_rfl) rfl trivial rfl (fun w_ K_ h_ => OpW.fieldAddr field_54_2 rfl h_) ?_
 refine DL.takeP (listed' := #[T,T,T,T,T,T,T,T,F,F,F,F,F,F,F,F,F,F]) (v := .pointer (some (Addr.add (Addr.add a6 2) 5))) 7 rfl rfl (by kernel_rfl) rfl trivial rfl (fun w_ K_ h_ => OpW.fieldAddr field_52_1 rfl h_) ?_
 obtain ⟨x8, h1, h⟩ := h
 refine DL.takeK (listed' := #[T,T,T,T,T,T,T,T,T,F,F,F,F,F,F,F,F,F]) (v := .int .i64 x8) 8 rfl rfl (by kernel_rfl) (by kernel_rfl) rfl trivial rfl hx2 (fun w_ hS_ K_ h_ => OpW.load1 (v := .int .i64 x8) one_3 rfl (hS_.cell h1) h_) ?_
 refine DL.takeP (listed' := #[T,T,T,T,T,T,T,T,T,T,F,F,F,F,F,F,F,F]) (v := .int .i64 p1) 9 rfl rfl (by kernel_rfl) rfl trivial rfl (fun w_ K_ h_ => OpW.move (v := .int .i64 p1) rfl h_) ?_
 refine DL.execS (listed' := #[T,T,T,T,T,T,T,T,T,T,T,F,F,F,F,F,F,F]) 10 rfl (by kernel_rfl) rfl trivial rfl (OpW.callR (al := [.pointer x5, .int .i64 x8, .int .i64 p1]) Try.func16 fb_16 fn_16 rfl h (fun x9 w10 h => ?_))
 refine ⟨(fun h_ => absurd h_ (by decide)), ?_⟩
 refine DL.takeP (listed' := #[T,T,T,T,T,T,T,T,T,T,T,T,F,F,F,F,F,F]) (v := .tuple #[.pointer x9.1, Sl.v x9.2.1, .int .i64 x9.2.2]) 11 rfl rfl (by kernel_rfl) rfl trivial rfl (fun w_ K_ h_ => OpW.move (v := .tuple #[.pointer x9.1, Sl.v x9.2.1, .int .i64 x9.2.2]) rfl h_) ?_
 refine DL.takeP (listed' := #[T,T,T,T,T,T,T,T,T,T,T,T,T,F,F,F,F,F]) (v := .pointer x9.1) 12 rfl rfl (by kernel_rfl) rfl trivial rfl (fun w_ K_ h_ => OpW.extract (v := .pointer x9.1) rfl rfl h_) ?_
 refine DL.takeP (listed' := #[T,T,T,T,T,T,T,T,T,T,T,T,T,T,F,F,F,F]) (v := Sl.v x9.2.1) 13 rfl rfl (by kernel_rfl) rfl trivial rfl (fun w_ K_ h_ => OpW.extract (v := Sl.v x9.2.1) rfl rfl h_) ?_
 refine DL.takeP (listed' := #[T,T,T,T,T,T,T,T,T,T,T,T,T,T,T,F,F,F]) (v := .int .i64 x9.2.2) 14 rfl rfl (by kernel_rfl) rfl trivial rfl (fun w_ K_ h_ => OpW.extract (v := .int .i64 x9.2.2) rfl rfl h_) ?_
 refine DL.takeP (listed' := #[T,T,T,T,T,T,T,T,T,T,T,T,T,T,T,T,F,F]) (v := .pointer x9.1) 15 rfl rfl (by kernel_rfl) rfl trivial rfl (fun w_ K_ h_ => OpW.assign (v := .pointer x9.1) rfl h_) ?_
 refine DL.takeP (listed' := #[T,T,T,T,T,T,T,T,T,T,T,T,T,T,T,T,T,F]) (v := Sl.v x9.2.1) 16 rfl rfl (by kernel_rfl) rfl trivial rfl (fun w_ K_ h_ => OpW.assign (v := Sl.v x9.2.1) rfl h_) ?_
 refine DL.takeP (listed' := #[T,T,T,T,T,T,T,T,T,T,T,T,T,T,T,T,T,T]) (v := .int .i64 x9.2.2) 17 rfl rfl (by kernel_rfl) rfl trivial rfl (fun w_ K_ h_ => OpW.assign (v := .int .i64 x9.2.2) rfl h_) ?_
 refine DL.done (by kernel_rfl) ?_
 refine CW.seq ?_
 obtain ⟨w11, hw11_⟩ : ∃ w_, w_ = w10.drew := ⟨_, rfl⟩
 have h := h w11 hw11_
 have hx12 : Ext w10 w11 := by rw [hw11_]; exact Ext.drew _
 refine CW.draws (m := 20) (listed := #[F,F,F,F,F,F,F,F,F,F,F,F,F,F,F,F,F,F,F,F]) mixed [0, 1, 2, 3, 4, 5, 6, 7, 8, 9, 10, 12, 13, 14, 15, 16, 18, 19] (Ext w10) rfl rfl ?_
 rw [← hw11_]
 refine DL.takeP (listed' := #[T,F,F,F,F,F,F,F,F,F,F,F,F,F,F,F,F,F,F,F]) (v := .pointer p0) 0 rfl rfl (by kernel_rfl) rfl trivial rfl (fun w_ K_ h_ => OpW.move (v := .pointer p0) rfl h_) ?_
 obtain ⟨a13, ha14, h⟩ := h
 refine DL.takeP (listed' := #[T,T,F,F,F,F,F,F,F,F,F,F,F,F,F,F,F,F,F,F]) (v := .pointer (some a13)) 1 rfl rfl (by kernel_rfl) rfl trivial rfl (fun w_ K_ h_ => OpW.nilCheck (a := a13) (congrArg Value.pointer ha14) h_) ?_
 refine DL.takeP (listed' := #[T,T,T,F,F,F,F,F,F,F,F,F,F,F,F,F,F,F,F,F]) (v := .pointer (some (Addr.add a13 2))) 2 rfl rfl (by kernel_rfl) rfl trivial rfl (fun w_ K_ h_ => OpW.fieldAddr field_54_2 rfl h_) ?_
 refine DL.takeP (listed' := #[T,T,T,T,F,F,F,F,F,F,F,F,F,F,F,F,F,F,F,F]) (v := .pointer (some (Addr.add (Addr.add a13 2) 0))) 3 rfl rfl (by kernel_rfl) rfl trivial rfl (fun w_ K_ h_ => OpW.fieldAddr (off := 0) field_52_0 rfl h_) ?_
 obtain ⟨x15, h1, h2, h⟩ := h
 refine DL.takeK (listed' := #[T,T,T,T,T,F,F,F,F,F,F,F,F,F,F,F,F,F,F,F]) (v := aggv x15) 4 rfl rfl (by kernel_rfl) (by kernel_rfl) rfl trivial rfl hx12 (fun w_ hS_ K_ h_ => OpW.loadA agg_49 rfl h1 (hS_.at h2) h_) ?_
 refine DL.takeP (listed' := #[T,T,T,T,T,T,F,F,F,F,F,F,F,F,F,F,F,F,F,F]) (v := .pointer p0) 5 rfl rfl (by kernel_rfl) rfl trivial rfl (fun w_ K_ h_ => OpW.move (v := .pointer p0) rfl h_) ?_
 obtain ⟨a16, ha17, h⟩ := h
 refine DL.takeP (listed' := #[T,T,T,T,T,T,T,F,F,F,F,F,F,F,F,F,F,F,F,F]) (v := .pointer (some a16)) 6 rfl rfl (by kernel_rfl) rfl trivial rfl (fun w_ K_ h_ => OpW.nilCheck (a := a16) (congrArg Value.pointer ha17) h_) ?_
 refine DL.takeP (listed' := #[T,T,T,T,T,T,T,T,F,F,F,F,F,F,F,F,F,F,F,F]) (v := .pointer (some (Addr.add a16 2))) 7 rfl rfl (by kernel_rfl) rfl trivial rfl (fun w_ K_ h_ => OpW.fieldAddr field_54_2 rfl h_) ?_
 refine DL.takeP (listed' := #[T,T,T,T,T,T,T,T,T,F,F,F,F,F,F,F,F,F,F,F]) (v := .pointer (some (Addr.add (Addr.add a16 2) 5))) 8 rfl rfl (by kernel_rfl) rfl trivial rfl (fun w_ K_ h_ => OpW.fieldAddr field_52_1 rfl h_) ?_
 obtain ⟨x18, h1, h⟩ := h
 refine DL.takeK (listed' := #[T,T,T,T,T,T,T,T,T,T,F,F,F,F,F,F,F,F,F,F]) (v := .int .i64 x18) 9 rfl rfl (by kernel_rfl) (by kernel_rfl) rfl trivial rfl hx12 (fun w_ hS_ K_ h_ => OpW.load1 (v := .int .i64 x18) one_3 rfl (hS_.cell h1) h_) ?_
 refine DL.takeP (listed' := #[T,T,T,T,T,T,T,T,T,T,T,F,F,F,F,F,F,F,F,F]) (v := .int .i64 p1) 10 rfl rfl (by kernel_rfl) rfl trivial rfl (fun w_ K_ h_ => OpW.move (v := .int .i64 p1) rfl h_) ?_
 obtain ⟨F24, st_11, run_11, h⟩ := h
 obtain ⟨F30, st_16, run_16, h⟩ := h
 refine DL.state (fun ρ_ w33 => ∃ (x19 : (List Value × Sl × Int)) (x20 : Addr), Ext w11 w33 ∧ F24 () x19 w33 ∧ F30 () x20 w33 ∧ ρ_ 0 = .pointer p0 ∧ ρ_ 5 = .pointer x9.1 ∧ ρ_ 6 = Sl.v x9.2.1 ∧ ρ_ 7 = .int .i64 x9.2.2 ∧ ρ_ 8 = .pointer (some x20) ∧ ρ_ 39 = aggv x19.1 ∧ ρ_ 40 = Sl.v x19.2.1 ∧ ρ_ 41 = .int .i64 x19.2.2) 3 #[T,T,T,T,T,T,T,T,T,T,T,T,T,T,T,T,T,F,F,F] ?_ ?_
 ·rintro ρ_ w33 ⟨x19, x20, hx_1, f_11, f_16, e_0, e_5, e_6, e_7, e_8, e_39, e_40, e_41⟩
  have h := h x19 x20 w33 hx_1 f_11 f_16
  have hx34 := Ext.trans hx12 hx_1
  obtain ⟨g_, o_, e_, cur_, ha_, h1, h2, h3, h4, h⟩ := h
  obtain ⟨w35, hw35_⟩ : ∃ w_, w_ = w33.setRow g_ (cur_.toList.take o_ ++ x19.1 ++ cur_.toList.drop (o_ + List.length x19.1)).toArray := ⟨_, rfl⟩
  have h := h w35 hw35_
  refine DL.execN (listed' := #[T,T,T,T,T,T,T,T,T,T,T,T,T,T,T,T,T,T,F,F]) 17 rfl (by kernel_rfl) rfl trivial (OpW.storeAE (cs := x19.1) size_52 e_8 e_39 ha_ h1 h2 h3 h4 hw35_ ?_)
  refine ⟨(fun h_ => absurd h_ (by decide)), ?_⟩
  refine DL.takeP (listed' := #[T,T,T,T,T,T,T,T,T,T,T,T,T,T,T,T,T,T,T,F]) (v := Sl.v x19.2.1) 18 rfl rfl (by kernel_rfl) rfl trivial rfl (fun w_ K_ h_ => OpW.assign (v := Sl.v x19.2.1) e_40 h_) ?_
  refine DL.takeP (listed' := #[T,T,T,T,T,T,T,T,T,T,T,T,T,T,T,T,T,T,T,T]) (v := .int .i64 x19.2.2) 19 rfl rfl (by kernel_rfl) rfl trivial rfl (fun w_ K_ h_ => OpW.assign (v := .int .i64 x19.2.2) e_41 h_) ?_
  refine DL.done (by kernel_rfl) ?_
  refine CW.seq ?_
  obtain ⟨w36, hw36_⟩ : ∃ w_, w_ = w35.drew := ⟨_, rfl⟩
  have h := h w36 hw36_
  have hx37 : ExtB (Option.map Addr.block p0) w35 w36 := by rw [hw36_]; exact ExtB.of (Ext.drew _)
  refine CW.draws (m := 10) (listed := #[F,F,F,F,F,F,F,F,F,F]) mixed [0, 1, 2, 3, 4, 5, 6, 7, 8] (ExtB (Option.map Addr.block p0) w35) rfl rfl ?_
  rw [← hw36_]
  refine DL.takeP (listed' := #[T,F,F,F,F,F,F,F,F,F]) (v := .pointer p0) 0 rfl rfl (by kernel_rfl) rfl trivial rfl (fun w_ K_ h_ => OpW.move (v := .pointer p0) e_0 h_) ?_
  refine DL.takeP (listed' := #[T,T,F,F,F,F,F,F,F,F]) (v := .pointer p0) 1 rfl rfl (by kernel_rfl) rfl trivial rfl (fun w_ K_ h_ => OpW.move (v := .pointer p0) e_0 h_) ?_
  refine DL.takeP (listed' := #[T,T,T,F,F,F,F,F,F,F]) (v := .pointer x9.1) 2 rfl rfl (by kernel_rfl) rfl trivial rfl (fun w_ K_ h_ => OpW.move (v := .pointer x9.1) e_5 h_) ?_
  obtain ⟨hne39, h⟩ := h
  obtain ⟨x38, h1, h2, h⟩ := h
  refine DL.takeK (listed' := #[T,T,T,T,F,F,F,F,F,F]) (v := aggv x38) 3 rfl rfl (by kernel_rfl) (by kernel_rfl) rfl trivial rfl hx37 (fun w_ hS_ K_ h_ => OpW.loadA agg_52 e_8 h1 (hS_.at hne39 h2) h_) ?_
  obtain ⟨a40, ha41, h⟩ := h
  refine DL.takeP (listed' := #[T,T,T,T,T,F,F,F,F,F]) (v := .pointer (some a40)) 4 rfl rfl (by kernel_rfl) rfl trivial rfl (fun w_ K_ h_ => OpW.nilCheck (a := a40) (congrArg Value.pointer ha41) h_) ?_
  refine DL.takeP (listed' := #[T,T,T,T,T,T,F,F,F,F]) (v := .pointer (some (Addr.add a40 1))) 5 rfl rfl (by kernel_rfl) rfl trivial rfl (fun w_ K_ h_ => OpW.fieldAddr field_54_1 rfl h_) ?_
  obtain ⟨u_, h1, h2, h⟩ := h
  obtain ⟨w42, hw42_⟩ : ∃ w_, w_ = w36.setCell (Addr.add a40 1) (.pointer x9.1) := ⟨_, rfl⟩
  have h := h w42 hw42_
  refine DL.execN (listed' := #[T,T,T,T,T,T,T,F,F,F]) 6 rfl (by kernel_rfl) rfl trivial (OpW.store1E (v := .pointer x9.1) size_35 rfl rfl rfl h1 h2 hw42_ ?_)
  have hx43 : ExtB (Option.map Addr.block p0) w35 w42 := by
   rw [hw42_]
   refine ExtB.setCell hx37 ?_
   simp_all [add_block]
  refine ⟨(fun _ _ => hx43), ?_⟩
  obtain ⟨a44, ha45, h⟩ := h
  refine DL.takeP (listed' := #[T,T,T,T,T,T,T,T,F,F]) (v := .pointer (some a44)) 7 rfl rfl (by kernel_rfl) rfl trivial rfl (fun w_ K_ h_ => OpW.nilCheck (a := a44) (congrArg Value.pointer ha45) h_) ?_
  refine DL.takeP (listed' := #[T,T,T,T,T,T,T,T,T,F]) (v := .pointer (some (Addr.add a44 2))) 8 rfl rfl (by kernel_rfl) rfl trivial rfl (fun w_ K_ h_ => OpW.fieldAddr field_54_2 rfl h_) ?_
  obtain ⟨g_, o_, e_, cur_, ha_, h1, h2, h3, h4, h⟩ := h
  obtain ⟨w46, hw46_⟩ : ∃ w_, w_ = w42.setRow g_ (cur_.toList.take o_ ++ x38 ++ cur_.toList.drop (o_ + List.length x38)).toArray := ⟨_, rfl⟩
  have h := h w46 hw46_
  refine DL.execN (listed' := #[T,T,T,T,T,T,T,T,T,T]) 9 rfl (by kernel_rfl) rfl trivial (OpW.storeAE (cs := x38) size_52 rfl rfl ha_ h1 h2 h3 h4 hw46_ ?_)
  refine ⟨(fun h_ => absurd h_ (by decide)), ?_⟩
  refine DL.done (by kernel_rfl) ?_
  refine CW.seq ?_
  refine CW.seq ?_
  refine CW.region ?_
  refine RL.opS trivial rfl (OpW.move (v := .int .i64 x19.2.2) rfl ?_)
  refine RL.opS trivial rfl (OpW.bin (k := .i64) (a := x19.2.2) (b := 0) (v := .bool (!decide (x19.2.2 = 0))) rfl rfl rfl ?_)
  refine RL.nil ?_
  obtain ⟨ha, hc⟩ := h
  refine CW.cond (b := (!decide (x19.2.2 = 0))) rfl (fun hb47 => ?_) (fun hb47 => ?_)
  ·have h := ha hb47; clear ha hc
   refine CW.seq ?_
   refine CW.region ?_
   refine RL.opS trivial rfl (OpW.move (v := .pointer p0) e_0 ?_)
   obtain ⟨a48, ha49, h⟩ := h
   refine RL.opS trivial rfl (OpW.nilCheck (a := a48) (congrArg Value.pointer ha49) ?_)
   refine RL.opS trivial rfl (OpW.fieldAddr field_54_2 rfl ?_)
   refine RL.opS trivial rfl (OpW.fieldAddr field_52_6 rfl ?_)
   obtain ⟨u_, h1, h2, h⟩ := h
   obtain ⟨w50, hw50_⟩ : ∃ w_, w_ = w46.setCell (Addr.add (Addr.add a48 2) 10) (.bool true) := ⟨_, rfl⟩
   have h := h w50 hw50_
   refine RL.opN trivial (OpW.store1E (v := .bool true) size_4 rfl rfl rfl h1 h2 hw50_ ?_)
   refine RL.nil ?_
   refine CW.seq ?_
   refine CW.region ?_
   refine RL.opS trivial rfl (OpW.move (v := .int .i64 x9.2.2) e_7 ?_)
   refine RL.opS trivial rfl (OpW.move (v := .int .i64 x19.2.2) rfl ?_)
   refine RL.opS trivial rfl (OpW.bin (k := .i64) (a := x9.2.2) (b := x19.2.2) (v := .bool (decide (x9.2.2 = x19.2.2))) rfl rfl rfl ?_)
   refine RL.opS trivial rfl (OpW.move (v := .bool (decide (x9.2.2 = x19.2.2))) rfl ?_)
   refine jn_elim h ?_; clear h; intro k64 hk65 h
   refine RL.joinAt (A := Bool) 3 (fun s53 ρ => ρ 62 = .bool s53 ∧ ρ 6 = Sl.v x9.2.1) k64 ?_ ?_
   ·rintro s53 ρ w54 ⟨e55, e56⟩ h
    subst hk65
    dsimp only [List.drop]
    refine RL.opS trivial rfl (OpW.move (v := .bool s53) e55 ?_)
    refine jn_elim h ?_; clear h; intro k62 hk63 h
    refine RL.joinAt (A := Bool) 4 (fun s59 ρ => ρ 67 = .bool s59) k62 ?_ ?_
    ·rintro s59 ρ w60 e61 h
     subst hk63
     dsimp only [List.drop]
     refine RL.opS trivial rfl (OpW.assign (v := .bool s59) e61 ?_)
     refine RL.nil ?_
     refine CW.ret ?_
     exact ret_intro (res1 rfl rfl) ⟨s59, rfl, h⟩
    ·clear hk63
     dsimp only [List.take]
     obtain ⟨ha, hc⟩ := h
     rcases Bool.eq_false_or_eq_true s53 with hb57 | hb57
     ·have h := ha hb57; clear ha hc
      refine RL.opS (wanted_of rfl rfl hb57) rfl (OpW.move (v := Sl.v x9.2.1) e56 ?_)
      refine RL.opS (wanted_of rfl rfl hb57) rfl (OpW.len (s := x9.2.1) slice_22 rfl ?_)
      refine RL.opS (wanted_of rfl rfl hb57) rfl (OpW.bin (k := .i64) (a := (x9.2.1.len : Int)) (b := 0) (v := .bool (decide ((x9.2.1.len : Int) = 0))) rfl rfl rfl ?_)
      refine RL.opS trivial rfl (OpW.pick (b := true) (v := .bool (decide ((x9.2.1.len : Int) = 0))) (congrArg Value.bool hb57) rfl ?_)
      refine RL.nil ?_
      exact ⟨(decide ((x9.2.1.len : Int) = 0)), rfl, h⟩
     ·have h := hc hb57; clear ha hc
      refine RL.skipS (notWanted_of rfl rfl hb57) rfl ?_
      refine RL.skipS (notWanted_of rfl rfl hb57) rfl ?_
      refine RL.skipS (notWanted_of rfl rfl hb57) rfl ?_
      refine RL.opS trivial rfl (OpW.pick (b := false) (v := .bool false) (congrArg Value.bool hb57) rfl ?_)
      refine RL.nil ?_
      exact ⟨false, rfl, h⟩
   ·clear hk65
    dsimp only [List.take]
    obtain ⟨ha, hc⟩ := h
    rcases Bool.eq_false_or_eq_true (decide (x9.2.2 = x19.2.2)) with hb51 | hb51
    ·have h := ha hb51; clear ha hc
     refine RL.opS (wanted_of rfl rfl hb51) rfl (OpW.move (v := .pointer x9.1) e_5 ?_)
     refine RL.opS (wanted_of rfl rfl hb51) rfl (OpW.ptrNil (b := x9.1.isNone) (p := x9.1) ptr_35 rfl rfl rfl ?_)
     refine RL.opS trivial rfl (OpW.pick (b := true) (v := .bool (x9.1.isNone)) (congrArg Value.bool hb51) rfl ?_)
     refine RL.nil ?_
     exact ⟨(x9.1.isNone), ⟨rfl, e_6⟩, h⟩
    ·have h := hc hb51; clear ha hc
     refine RL.skipS (notWanted_of rfl rfl hb51) rfl ?_
     refine RL.skipS (notWanted_of rfl rfl hb51) rfl ?_
     refine RL.opS trivial rfl (OpW.pick (b := false) (v := .bool false) (congrArg Value.bool hb51) rfl ?_)
     refine RL.nil ?_
     exact ⟨false, ⟨rfl, e_6⟩, h⟩
  ·have h := hc hb47; clear ha hc
   refine CW.skip ?_
   refine CW.seq ?_
   refine CW.region ?_
   refine RL.opS trivial rfl (OpW.move (v := .int .i64 x9.2.2) e_7 ?_)
   refine RL.opS trivial rfl (OpW.bin (k := .i64) (a := x9.2.2) (b := 0) (v := .bool (decide (x9.2.2 = 0))) rfl rfl rfl ?_)
   refine RL.opS trivial rfl (OpW.move (v := .bool (decide (x9.2.2 = 0))) rfl ?_)
   refine jn_elim h ?_; clear h; intro k73 hk74 h
   refine RL.joinAt (A := Bool) 4 (fun s70 ρ => ρ 74 = .bool s70) k73 ?_ ?_
   ·rintro s70 ρ w71 e72 h
    subst hk74
    dsimp only [List.drop]
    refine RL.opS trivial rfl (OpW.assign (v := .bool s70) e72 ?_)
    refine RL.nil ?_
    refine CW.ret ?_
    exact ret_intro (res1 rfl rfl) ⟨s70, rfl, h⟩
   ·clear hk74
    dsimp only [List.take]
    obtain ⟨ha, hc⟩ := h
    rcases Bool.eq_false_or_eq_true (decide (x9.2.2 = 0)) with hb66 | hb66
    ·have h := ha hb66; clear ha hc
     refine RL.opS (wanted_of rfl rfl hb66) rfl (OpW.move (v := Sl.v x9.2.1) e_6 ?_)
     refine RL.opS (wanted_of rfl rfl hb66) rfl (OpW.move (v := Sl.v x19.2.1) rfl ?_)
     refine RL.opS (wanted_of rfl rfl hb66) rfl (OpW.callR (al := [Sl.v x9.2.1, Sl.v x19.2.1]) Try.func45 fb_45 fn_45 rfl h (fun x68 w69 h => ?_))
     refine RL.opS trivial rfl (OpW.pick (b := true) (v := .bool x68) (congrArg Value.bool hb66) rfl ?_)
     refine RL.nil ?_
     exact ⟨x68, rfl, h⟩
    ·have h := hc hb66; clear ha hc
     refine RL.skipS (notWanted_of rfl rfl hb66) rfl ?_
     refine RL.skipS (notWanted_of rfl rfl hb66) rfl ?_
     refine RL.skipS (notWanted_of rfl rfl hb66) rfl ?_
     refine RL.opS trivial rfl (OpW.pick (b := false) (v := .bool false) (congrArg Value.bool hb66) rfl ?_)
     refine RL.nil ?_
     exact ⟨false, rfl, h⟩
 intro hD_11_16
 refine DL.state (fun ρ_ w75 => ∃ (x19 : (List Value × Sl × Int)), Ext w11 w75 ∧ F24 () x19 w75 ∧ ρ_ 0 = .pointer p0 ∧ ρ_ 5 = .pointer x9.1 ∧ ρ_ 6 = Sl.v x9.2.1 ∧ ρ_ 7 = .int .i64 x9.2.2 ∧ ρ_ 39 = aggv x19.1 ∧ ρ_ 40 = Sl.v x19.2.1 ∧ ρ_ 41 = .int .i64 x19.2.2) 4 #[T,T,T,T,T,T,T,T,T,T,T,T,T,T,T,T,F,F,F,F] ?_ ?_
 ·rintro ρ_ w75 ⟨x19, hx_1, f_11, e_0, e_5, e_6, e_7, e_39, e_40, e_41⟩
  refine DL.branch [16] (by kernel_rfl) rfl ?_
  refine all_cons ?_ (all_nil)
  ·clear h
   have h := run_16 () w75 hx_1 trivial
   obtain ⟨b76, hb76_⟩ : ∃ b_, b_ = w75.heap.size := ⟨_, rfl⟩
   obtain ⟨w77, hw77_⟩ : ∃ w_, w_ = w75.alloc (.cells (List.toArray [Value.slice none 0 0, Value.slice none 0 0, Value.slice none 0 0, Value.int .i64 0, Value.bool false, Value.int .i64 0, Value.int .i64 0, Value.int .u64 0, str [], Value.int .i64 0, Value.bool false]) 52) := ⟨_, rfl⟩
   have h := h b76 w77 hb76_ hw77_
   refine DLop.execS (listed' := #[T,T,T,T,T,T,T,T,T,T,T,T,T,T,T,T,T,F,F,F]) rfl rfl trivial rfl (OpW.allocE (b := b76) zero_52 hb76_ hw77_ ?_)
   obtain ⟨hx78, f79⟩ := h
   refine ⟨(fun _ hS_ => Ext.trans hS_ hx78), ?_⟩
   exact hD_11_16 _ _ ⟨x19, ⟨b76, 0, none⟩, Ext.trans hx_1 hx78, st_11 _ _ _ _ hx78 f_11, f79, e_0, e_5, e_6, e_7, rfl, e_39, e_40, e_41⟩

 intro hD_11
 refine DL.state (fun ρ_ w80 => ∃ (x20 : Addr), Ext w11 w80 ∧ F30 () x20 w80 ∧ ρ_ 0 = .pointer p0 ∧ ρ_ 5 = .pointer x9.1 ∧ ρ_ 6 = Sl.v x9.2.1 ∧ ρ_ 7 = .int .i64 x9.2.2 ∧ ρ_ 8 = .pointer (some x20) ∧ ρ_ 31 = aggv x15 ∧ ρ_ 36 = .int .i64 x18 ∧ ρ_ 37 = .int .i64 p1) 8 #[T,T,T,T,T,T,T,T,T,T,T,F,F,F,F,F,T,F,F,F] ?_ ?_
 ·rintro ρ_ w80 ⟨x20, hx_1, f_16, e_0, e_5, e_6, e_7, e_8, e_31, e_36, e_37⟩
  refine DL.branch [11] (by kernel_rfl) rfl ?_
  refine all_cons ?_ (all_nil)
  ·clear h
   have h := run_11 () w80 hx_1 trivial
   refine DLop.execS (listed' := #[T,T,T,T,T,T,T,T,T,T,T,T,F,F,F,F,T,F,F,F]) rfl rfl trivial rfl (OpW.callR (al := [aggv x15, .int .i64 x18, .int .i64 p1]) Try.func55 fb_55 fn_55 (by simp only [List.map_cons, List.map_nil, ev, upd, Nat.beq, cond_false, cond_true, e_31, e_36, e_37]) h (fun x81 w82 h => ?_))
   obtain ⟨hx83, f84⟩ := h
   refine ⟨(fun h_ => absurd h_ (by decide)), ?_⟩
   refine DL.takeP (listed' := #[T,T,T,T,T,T,T,T,T,T,T,T,T,F,F,F,T,F,F,F]) (v := .tuple #[aggv x81.1, Sl.v x81.2.1, .int .i64 x81.2.2]) 12 rfl rfl (by kernel_rfl) rfl trivial rfl (fun w_ K_ h_ => OpW.move (v := .tuple #[aggv x81.1, Sl.v x81.2.1, .int .i64 x81.2.2]) rfl h_) ?_
   refine DL.takeP (listed' := #[T,T,T,T,T,T,T,T,T,T,T,T,T,T,F,F,T,F,F,F]) (v := aggv x81.1) 13 rfl rfl (by kernel_rfl) rfl trivial rfl (fun w_ K_ h_ => OpW.extract (v := aggv x81.1) rfl rfl h_) ?_
   refine DL.takeP (listed' := #[T,T,T,T,T,T,T,T,T,T,T,T,T,T,T,F,T,F,F,F]) (v := Sl.v x81.2.1) 14 rfl rfl (by kernel_rfl) rfl trivial rfl (fun w_ K_ h_ => OpW.extract (v := Sl.v x81.2.1) rfl rfl h_) ?_
   refine DL.takeP (listed' := #[T,T,T,T,T,T,T,T,T,T,T,T,T,T,T,T,T,F,F,F]) (v := .int .i64 x81.2.2) 15 rfl rfl (by kernel_rfl) rfl trivial rfl (fun w_ K_ h_ => OpW.extract (v := .int .i64 x81.2.2) rfl rfl h_) ?_
   exact hD_11_16 _ _ ⟨(x81.1, x81.2.1, x81.2.2), x20, Ext.trans hx_1 hx83, f84, st_16 _ _ _ _ hx83 f_16, e_0, e_5, e_6, e_7, e_8, rfl, rfl, rfl⟩

 intro hD_16
 have hx_0 : Ext w11 w11 := Ext.refl _
 refine DL.branch [11, 16] (by kernel_rfl) rfl ?_
 refine all_cons ?_ (all_cons ?_ (all_nil))
 ·clear h
  have h := run_11 () w11 hx_0 trivial
  refine DLop.execS (listed' := #[T,T,T,T,T,T,T,T,T,T,T,T,F,F,F,F,F,F,F,F]) rfl rfl trivial rfl (OpW.callR (al := [aggv x15, .int .i64 x18, .int .i64 p1]) Try.func55 fb_55 fn_55 rfl h (fun x85 w86 h => ?_))
  obtain ⟨hx87, f88⟩ := h
  refine ⟨(fun h_ => absurd h_ (by decide)), ?_⟩
  refine DL.takeP (listed' := #[T,T,T,T,T,T,T,T,T,T,T,T,T,F,F,F,F,F,F,F]) (v := .tuple #[aggv x85.1, Sl.v x85.2.1, .int .i64 x85.2.2]) 12 rfl rfl (by kernel_rfl) rfl trivial rfl (fun w_ K_ h_ => OpW.move (v := .tuple #[aggv x85.1, Sl.v x85.2.1, .int .i64 x85.2.2]) rfl h_) ?_
  refine DL.takeP (listed' := #[T,T,T,T,T,T,T,T,T,T,T,T,T,T,F,F,F,F,F,F]) (v := aggv x85.1) 13 rfl rfl (by kernel_rfl) rfl trivial rfl (fun w_ K_ h_ => OpW.extract (v := aggv x85.1) rfl rfl h_) ?_
  refine DL.takeP (listed' := #[T,T,T,T,T,T,T,T,T,T,T,T,T,T,T,F,F,F,F,F]) (v := Sl.v x85.2.1) 14 rfl rfl (by kernel_rfl) rfl trivial rfl (fun w_ K_ h_ => OpW.extract (v := Sl.v x85.2.1) rfl rfl h_) ?_
  refine DL.takeP (listed' := #[T,T,T,T,T,T,T,T,T,T,T,T,T,T,T,T,F,F,F,F]) (v := .int .i64 x85.2.2) 15 rfl rfl (by kernel_rfl) rfl trivial rfl (fun w_ K_ h_ => OpW.extract (v := .int .i64 x85.2.2) rfl rfl h_) ?_
  exact hD_11 _ _ ⟨(x85.1, x85.2.1, x85.2.2), Ext.trans hx_0 hx87, f88, rfl, rfl, rfl, rfl, rfl, rfl, rfl⟩
 ·clear h
  have h := run_16 () w11 hx_0 trivial
  obtain ⟨b89, hb89_⟩ : ∃ b_, b_ = w11.heap.size := ⟨_, rfl⟩
  obtain ⟨w90, hw90_⟩ : ∃ w_, w_ = w11.alloc (.cells (List.toArray [Value.slice none 0 0, Value.slice none 0 0, Value.slice none 0 0, Value.int .i64 0, Value.bool false, Value.int .i64 0, Value.int .i64 0, Value.int .u64 0, str [], Value.int .i64 0, Value.bool false]) 52) := ⟨_, rfl⟩
  have h := h b89 w90 hb89_ hw90_
  refine DLop.execS (listed' := #[T,T,T,T,T,T,T,T,T,T,T,F,F,F,F,F,T,F,F,F]) rfl rfl trivial rfl (OpW.allocE (b := b89) zero_52 hb89_ hw90_ ?_)
  obtain ⟨hx91, f92⟩ := h
  refine ⟨(fun _ hS_ => Ext.trans hS_ hx91), ?_⟩
  exact hD_16 _ _ ⟨⟨b89, 0, none⟩, Ext.trans hx_0 hx91, f92, rfl, rfl, rfl, rfl, rfl, rfl, rfl, rfl⟩

end Go.Proofs.Ytagkcbbbdlmcjaa
end
section
/- The typed readings of the functions, and that the program meets each: written by gen.py (a program of this session). -/
namespace Go.Proofs.Ytagkcbbbdlmcjaa
open Go.Lift
set_option maxRecDepth 100000 in
set_option maxHeartbeats 4000000 in
theorem s43_calls (K : Bool → World → Prop) (p0 : Option Addr) (w : World) (h : s43 K p0 w) :
  Calls Try.prog 43 #[.pointer p0] w (Ret r43 K) := by
 unfold s43 at h
 refine calls_of_CW (n := 66) Try.func43 rfl rfl rfl ?_
 refine CW.seq ?_
 refine CW.region ?_
 refine RL.opS trivial rfl (OpW.assign (v := .bool false) rfl ?_)
 refine RL.nil ?_
 refine CW.seq ?_
 refine CW.seq ?_
 refine CW.region ?_
 refine RL.opS trivial rfl (OpW.move (v := .pointer p0) rfl ?_)
 obtain ⟨a1, ha2, h⟩ := h
 refine RL.opS trivial rfl (OpW.nilCheck (a := a1) (congrArg Value.pointer ha2) ?_)
 refine RL.opS trivial rfl (OpW.fieldAddr field_54_1 rfl ?_)
 obtain ⟨x3, h1, h⟩ := h
 refine RL.opS trivial rfl (OpW.load1 (v := .pointer x3) one_35 rfl h1 ?_)
 refine RL.opS trivial rfl (OpW.ptrNil (b := x3.isNone) (p := x3) ptr_35 rfl rfl rfl ?_)
 refine RL.nil ?_
 obtain ⟨ha, hc⟩ := h
 refine CW.cond (b := (x3.isNone)) rfl (fun hb4 => ?_) (fun hb4 => ?_)
 ·have h := ha hb4; clear ha hc
  refine CW.seq ?_
  refine CW.region ?_
  refine RL.opS trivial rfl (OpW.assign (v := .bool true) rfl ?_)
  refine RL.nil ?_
  refine CW.ret ?_
  exact ret_intro (res1 rfl rfl) ⟨true, rfl, h⟩
 ·have h := hc hb4; clear ha hc
  refine CW.skip ?_
  refine CW.seq ?_
  obtain ⟨w5, hw5_⟩ : ∃ w_, w_ = w.drew := ⟨_, rfl⟩
  have h := h w5 hw5_
  have hx6 : Ext w w5 := by rw [hw5_]; exact Ext.drew _
  refine CW.draws (m := 59) (listed := #[F,F,F,F,F,F,F,F,F,F,F,F,F,F,F,F,F,F,F,F,F,F,F,F,F,F,F,F,F,F,F,F,F,F,F,F,F,F,F,F,F,F,F,F,F,F,F,F,F,F,F,F,F,F,F,F,F,F,F]) mixed [0, 1, 2, 3, 4, 5, 6, 7, 8, 9, 10, 11, 12, 13, 14, 15, 16, 17, 18, 19, 20, 21, 22, 23, 24, 25, 26, 27, 28, 29, 30, 31, 32, 33, 34, 35, 36, 37, 38, 39, 40, 41, 42, 43, 44, 45, 46, 47, 48, 49, 50, 51, 52, 53, 54, 55, 56, 57, 58] (Ext w) rfl rfl ?_
  rw [← hw5_]
  refine DL.takeP (listed' := #[T,F,F,F,F,F,F,F,F,F,F,F,F,F,F,F,F,F,F,F,F,F,F,F,F,F,F,F,F,F,F,F,F,F,F,F,F,F,F,F,F,F,F,F,F,F,F,F,F,F,F,F,F,F,F,F,F,F,F]) (v := .pointer p0) 0 rfl rfl (by kernel_rfl) rfl trivial rfl (fun w_ K_ h_ => OpW.move (v := .pointer p0) rfl h_) ?_
  obtain ⟨a7, ha8, h⟩ := h
  refine DL.takeP (listed' := #[T,T,F,F,F,F,F,F,F,F,F,F,F,F,F,F,F,F,F,F,F,F,F,F,F,F,F,F,F,F,F,F,F,F,F,F,F,F,F,F,F,F,F,F,F,F,F,F,F,F,F,F,F,F,F,F,F,F,F]) (v := .pointer (some a7)) 1 rfl rfl (by kernel_rfl) rfl trivial rfl (fun w_ K_ h_ => OpW.nilCheck (a := a7) (congrArg Value.pointer ha8) h_) ?_
  refine DL.takeP (listed' := #[T,T,T,F,F,F,F,F,F,F,F,F,F,F,F,F,F,F,F,F,F,F,F,F,F,F,F,F,F,F,F,F,F,F,F,F,F,F,F,F,F,F,F,F,F,F,F,F,F,F,F,F,F,F,F,F,F,F,F]) (v := .pointer (some (Addr.add a7 1))) 2 rfl rfl (by kernel_rfl) rfl trivial rfl (fun w_ K_ h_ => OpW.fieldAddr field_54_1 rfl h_) ?_
  obtain ⟨x9, h1, h⟩ := h
  refine DL.takeK (listed' := #[T,T,T,T,F,F,F,F,F,F,F,F,F,F,F,F,F,F,F,F,F,F,F,F,F,F,F,F,F,F,F,F,F,F,F,F,F,F,F,F,F,F,F,F,F,F,F,F,F,F,F,F,F,F,F,F,F,F,F]) (v := .pointer x9) 3 rfl rfl (by kernel_rfl) (by kernel_rfl) rfl trivial rfl hx6 (fun w_ hS_ K_ h_ => OpW.load1 (v := .pointer x9) one_35 rfl (hS_.cell h1) h_) ?_
  refine DL.takeP (listed' := #[T,T,T,T,F,T,F,F,F,F,F,F,F,F,F,F,F,F,F,F,F,F,F,F,F,F,F,F,F,F,F,F,F,F,F,F,F,F,F,F,F,F,F,F,F,F,F,F,F,F,F,F,F,F,F,F,F,F,F]) (v := .pointer p0) 5 rfl rfl (by kernel_rfl) rfl trivial rfl (fun w_ K_ h_ => OpW.move (v := .pointer p0) rfl h_) ?_
  obtain ⟨a10, ha11, h⟩ := h
  refine DL.takeP (listed' := #[T,T,T,T,F,T,T,F,F,F,F,F,F,F,F,F,F,F,F,F,F,F,F,F,F,F,F,F,F,F,F,F,F,F,F,F,F,F,F,F,F,F,F,F,F,F,F,F,F,F,F,F,F,F,F,F,F,F,F]) (v := .pointer (some a10)) 6 rfl rfl (by kernel_rfl) rfl trivial rfl (fun w_ K_ h_ => OpW.nilCheck (a := a10) (congrArg Value.pointer ha11) h_) ?_
  refine DL.takeP (listed' := #[T,T,T,T,F,T,T,T,F,F,F,F,F,F,F,F,F,F,F,F,F,F,F,F,F,F,F,F,F,F,F,F,F,F,F,F,F,F,F,F,F,F,F,F,F,F,F,F,F,F,F,F,F,F,F,F,F,F,F]) (v := .pointer (some (Addr.add a10 2))) 7 rfl rfl (by kernel_rfl) rfl trivial rfl (fun w_ K_ h_ => OpW.fieldAddr field_54_2 rfl h_) ?_
  refine DL.takeP (listed' := #[T,T,T,T,F,T,T,T,T,F,F,F,F,F,F,F,F,F,F,F,F,F,F,F,F,F,F,F,F,F,F,F,F,F,F,F,F,F,F,F,F,F,F,F,F,F,F,F,F,F,F,F,F,F,F,F,F,F,F]) (v := .pointer (some (Addr.add (Addr.add a10 2) 6))) 8 rfl rfl (by kernel_rfl) rfl trivial rfl (fun w_ K_ h_ => OpW.fieldAddr field_52_2 rfl h_) ?_
  obtain ⟨x12, h1, h⟩ := h
  refine DL.takeK (listed' := #[T,T,T,T,F,T,T,T,T,T,F,F,F,F,F,F,F,F,F,F,F,F,F,F,F,F,F,F,F,F,F,F,F,F,F,F,F,F,F,F,F,F,F,F,F,F,F,F,F,F,F,F,F,F,F,F,F,F,F]) (v := .int .i64 x12) 9 rfl rfl (by kernel_rfl) (by kernel_rfl) rfl trivial rfl hx6 (fun w_ hS_ K_ h_ => OpW.load1 (v := .int .i64 x12) one_3 rfl (hS_.cell h1) h_) ?_
  refine DL.takeP (listed' := #[T,T,T,T,F,T,T,T,T,T,T,F,F,F,F,F,F,F,F,F,F,F,F,F,F,F,F,F,F,F,F,F,F,F,F,F,F,F,F,F,F,F,F,F,F,F,F,F,F,F,F,F,F,F,F,F,F,F,F]) (v := .pointer p0) 10 rfl rfl (by kernel_rfl) rfl trivial rfl (fun w_ K_ h_ => OpW.move (v := .pointer p0) rfl h_) ?_
  obtain ⟨a13, ha14, h⟩ := h
  refine DL.takeP (listed' := #[T,T,T,T,F,T,T,T,T,T,T,T,F,F,F,F,F,F,F,F,F,F,F,F,F,F,F,F,F,F,F,F,F,F,F,F,F,F,F,F,F,F,F,F,F,F,F,F,F,F,F,F,F,F,F,F,F,F,F]) (v := .pointer (some a13)) 11 rfl rfl (by kernel_rfl) rfl trivial rfl (fun w_ K_ h_ => OpW.nilCheck (a := a13) (congrArg Value.pointer ha14) h_) ?_
  refine DL.takeP (listed' := #[T,T,T,T,F,T,T,T,T,T,T,T,T,F,F,F,F,F,F,F,F,F,F,F,F,F,F,F,F,F,F,F,F,F,F,F,F,F,F,F,F,F,F,F,F,F,F,F,F,F,F,F,F,F,F,F,F,F,F]) (v := .pointer (some (Addr.add a13 2))) 12 rfl rfl (by kernel_rfl) rfl trivial rfl (fun w_ K_ h_ => OpW.fieldAddr field_54_2 rfl h_) ?_
  refine DL.takeP (listed' := #[T,T,T,T,F,T,T,T,T,T,T,T,T,T,F,F,F,F,F,F,F,F,F,F,F,F,F,F,F,F,F,F,F,F,F,F,F,F,F,F,F,F,F,F,F,F,F,F,F,F,F,F,F,F,F,F,F,F,F]) (v := .pointer (some (Addr.add (Addr.add a13 2) 8))) 13 rfl rfl (by kernel_rfl) rfl trivial rfl (fun w_ K_ h_ => OpW.fieldAddr field_52_4 rfl h_) ?_
  obtain ⟨x15, h1, h⟩ := h
  refine DL.takeK (listed' := #[T,T,T,T,F,T,T,T,T,T,T,T,T,T,T,F,F,F,F,F,F,F,F,F,F,F,F,F,F,F,F,F,F,F,F,F,F,F,F,F,F,F,F,F,F,F,F,F,F,F,F,F,F,F,F,F,F,F,F]) (v := str x15) 14 rfl rfl (by kernel_rfl) (by kernel_rfl) rfl trivial rfl hx6 (fun w_ hS_ K_ h_ => OpW.load1 (v := str x15) one_9 rfl (hS_.cell h1) h_) ?_
  refine DL.takeP (listed' := #[T,T,T,T,F,T,T,T,T,T,T,T,T,T,T,T,F,F,F,F,F,F,F,F,F,F,F,F,F,F,F,F,F,F,F,F,F,F,F,F,F,F,F,F,F,F,F,F,F,F,F,F,F,F,F,F,F,F,F]) (v := .int .i64 (x15.length : Int)) 15 rfl rfl (by kernel_rfl) rfl trivial rfl (fun w_ K_ h_ => OpW.lenStr us_9 rfl h_) ?_
  refine DL.takeP (listed' := #[T,T,T,T,F,T,T,T,T,T,T,T,T,T,T,T,T,F,F,F,F,F,F,F,F,F,F,F,F,F,F,F,F,F,F,F,F,F,F,F,F,F,F,F,F,F,F,F,F,F,F,F,F,F,F,F,F,F,F]) (v := .int .i64 (IntKind.i64.wrap (x12 - (x15.length : Int)))) 16 rfl rfl (by kernel_rfl) rfl trivial rfl (fun w_ K_ h_ => OpW.bin (k := .i64) (a := x12) (b := (x15.length : Int)) (v := .int .i64 (IntKind.i64.wrap (x12 - (x15.length : Int)))) rfl rfl rfl h_) ?_
  refine DL.execS (listed' := #[T,T,T,T,T,T,T,T,T,T,T,T,T,T,T,T,T,F,F,F,F,F,F,F,F,F,F,F,F,F,F,F,F,F,F,F,F,F,F,F,F,F,F,F,F,F,F,F,F,F,F,F,F,F,F,F,F,F,F]) 4 rfl (by kernel_rfl) rfl trivial rfl (OpW.callR (al := [.pointer x9]) Try.func17 fb_17 fn_17 rfl h (fun x16 w17 h => ?_))
  obtain ⟨hx18, h⟩ := h
  refine ⟨(fun _ _ => hx18), ?_⟩
  refine DL.takeP (listed' := #[T,T,T,T,T,T,T,T,T,T,T,T,T,T,T,T,T,T,F,F,F,F,F,F,F,F,F,F,F,F,F,F,F,F,F,F,F,F,F,F,F,F,F,F,F,F,F,F,F,F,F,F,F,F,F,F,F,F,F]) (v := .bool (decide (x16 = (IntKind.i64.wrap (x12 - (x15.length : Int)))))) 17 rfl rfl (by kernel_rfl) rfl trivial rfl (fun w_ K_ h_ => OpW.bin (k := .i64) (a := x16) (b := (IntKind.i64.wrap (x12 - (x15.length : Int)))) (v := .bool (decide (x16 = (IntKind.i64.wrap (x12 - (x15.length : Int)))))) rfl rfl rfl h_) ?_
  refine DL.takeP (listed' := #[T,T,T,T,T,T,T,T,T,T,T,T,T,T,T,T,T,T,T,F,F,F,F,F,F,F,F,F,F,F,F,F,F,F,F,F,F,F,F,F,F,F,F,F,F,F,F,F,F,F,F,F,F,F,F,F,F,F,F]) (v := .bool (decide (x16 = (IntKind.i64.wrap (x12 - (x15.length : Int)))))) 18 rfl rfl (by kernel_rfl) rfl trivial rfl (fun w_ K_ h_ => OpW.move (v := .bool (decide (x16 = (IntKind.i64.wrap (x12 - (x15.length : Int)))))) rfl h_) ?_
  refine jn_elim h ?_; clear h; intro k70 hk71 h
  refine DL.cutS (A := Bool) (fun s30 ρ => ρ 38 = .bool s30 ∧ ρ 0 = .pointer p0) k70 28 #[T,T,T,T,T,T,T,T,T,T,T,T,T,T,T,T,T,T,T,T,T,T,T,T,T,T,T,T,T,T,T,F,F,F,F,F,F,F,F,F,F,F,F,F,F,F,F,F,F,F,F,F,F,F,F,F,F,F,F] ?_ ?_
  ·rintro s30 ρ w31 ⟨e33, e34⟩ hx32 h
   subst hk71
   refine DL.takeP (listed' := #[T,T,T,T,T,T,T,T,T,T,T,T,T,T,T,T,T,T,T,T,T,T,T,T,T,T,T,T,T,T,T,T,F,F,F,F,F,F,F,F,F,F,F,F,F,F,F,F,F,F,F,F,F,F,F,F,F,F,F]) (v := .bool s30) 31 rfl rfl (by kernel_rfl) rfl trivial rfl (fun w_ K_ h_ => OpW.move (v := .bool s30) e33 h_) ?_
   refine jn_elim h ?_; clear h; intro k68 hk69 h
   refine DL.cutS (A := Bool) (fun s46 ρ => ρ 51 = .bool s46 ∧ ρ 0 = .pointer p0) k68 15 #[T,T,T,T,T,T,T,T,T,T,T,T,T,T,T,T,T,T,T,T,T,T,T,T,T,T,T,T,T,T,T,T,T,T,T,T,T,T,T,T,T,T,T,T,F,F,F,F,F,F,F,F,F,F,F,F,F,F,F] ?_ ?_
   ·rintro s46 ρ w47 ⟨e49, e50⟩ hx48 h
    subst hk69
    refine DL.takeP (listed' := #[T,T,T,T,T,T,T,T,T,T,T,T,T,T,T,T,T,T,T,T,T,T,T,T,T,T,T,T,T,T,T,T,T,T,T,T,T,T,T,T,T,T,T,T,T,F,F,F,F,F,F,F,F,F,F,F,F,F,F]) (v := .bool s46) 44 rfl rfl (by kernel_rfl) rfl trivial rfl (fun w_ K_ h_ => OpW.move (v := .bool s46) e49 h_) ?_
    refine jn_elim h ?_; clear h; intro k66 hk67 h
    refine DL.cut (A := Bool) (fun s62 ρ => ρ 65 = .bool s62) k66 1 #[T,T,T,T,T,T,T,T,T,T,T,T,T,T,T,T,T,T,T,T,T,T,T,T,T,T,T,T,T,T,T,T,T,T,T,T,T,T,T,T,T,T,T,T,T,T,T,T,T,T,T,T,T,T,T,T,T,T,F] ?_ ?_
    ·rintro s62 ρ w63 e65 h
     subst hk67
     refine DL.takeP (listed' := #[T,T,T,T,T,T,T,T,T,T,T,T,T,T,T,T,T,T,T,T,T,T,T,T,T,T,T,T,T,T,T,T,T,T,T,T,T,T,T,T,T,T,T,T,T,T,T,T,T,T,T,T,T,T,T,T,T,T,T]) (v := .bool s62) 58 rfl rfl (by kernel_rfl) rfl trivial rfl (fun w_ K_ h_ => OpW.assign (v := .bool s62) e65 h_) ?_
     refine DL.done (by kernel_rfl) ?_
     refine CW.ret ?_
     exact ret_intro (res1 rfl rfl) ⟨s62, rfl, h⟩
    ·intro hJJ51; clear hk67
     obtain ⟨ha, hc⟩ := h
     rcases Bool.eq_false_or_eq_true s46 with hb52 | hb52
     ·have h := ha hb52; clear ha hc
      refine DL.takeP (listed' := #[T,T,T,T,T,T,T,T,T,T,T,T,T,T,T,T,T,T,T,T,T,T,T,T,T,T,T,T,T,T,T,T,T,T,T,T,T,T,T,T,T,T,T,T,T,T,F,F,F,F,F,F,F,F,F,F,F,F,F]) (v := .pointer p0) 45 rfl rfl (by kernel_rfl) rfl (wanted_of rfl rfl hb52) rfl (fun w_ K_ h_ => OpW.move (v := .pointer p0) e50 h_) ?_
      obtain ⟨a53, ha54, h⟩ := h
      refine DL.takeP (listed' := #[T,T,T,T,T,T,T,T,T,T,T,T,T,T,T,T,T,T,T,T,T,T,T,T,T,T,T,T,T,T,T,T,T,T,T,T,T,T,T,T,T,T,T,T,T,T,T,F,F,F,F,F,F,F,F,F,F,F,F]) (v := .pointer (some a53)) 46 rfl rfl (by kernel_rfl) rfl (wanted_of rfl rfl hb52) rfl (fun w_ K_ h_ => OpW.nilCheck (a := a53) (congrArg Value.pointer ha54) h_) ?_
      refine DL.takeP (listed' := #[T,T,T,T,T,T,T,T,T,T,T,T,T,T,T,T,T,T,T,T,T,T,T,T,T,T,T,T,T,T,T,T,T,T,T,T,T,T,T,T,T,T,T,T,T,T,T,T,F,F,F,F,F,F,F,F,F,F,F]) (v := .pointer (some (Addr.add a53 0))) 47 rfl rfl (by kernel_rfl) rfl (wanted_of rfl rfl hb52) rfl (fun w_ K_ h_ => OpW.fieldAddr (off := 0) field_54_0 rfl h_) ?_
      obtain ⟨x55, h1, h⟩ := h
      refine DL.takeK (listed' := #[T,T,T,T,T,T,T,T,T,T,T,T,T,T,T,T,T,T,T,T,T,T,T,T,T,T,T,T,T,T,T,T,T,T,T,T,T,T,T,T,T,T,T,T,T,T,T,T,T,F,F,F,F,F,F,F,F,F,F]) (v := .pointer x55) 48 rfl rfl (by kernel_rfl) (by kernel_rfl) rfl (wanted_of rfl rfl hb52) rfl hx48 (fun w_ hS_ K_ h_ => OpW.load1 (v := .pointer x55) one_31 rfl (hS_.cell h1) h_) ?_
      refine DL.takeP (listed' := #[T,T,T,T,T,T,T,T,T,T,T,T,T,T,T,T,T,T,T,T,T,T,T,T,T,T,T,T,T,T,T,T,T,T,T,T,T,T,T,T,T,T,T,T,T,T,T,T,T,F,T,F,F,F,F,F,F,F,F]) (v := .pointer p0) 50 rfl rfl (by kernel_rfl) rfl (wanted_of rfl rfl hb52) rfl (fun w_ K_ h_ => OpW.move (v := .pointer p0) e50 h_) ?_
      obtain ⟨a56, ha57, h⟩ := h
      refine DL.takeP (listed' := #[T,T,T,T,T,T,T,T,T,T,T,T,T,T,T,T,T,T,T,T,T,T,T,T,T,T,T,T,T,T,T,T,T,T,T,T,T,T,T,T,T,T,T,T,T,T,T,T,T,F,T,T,F,F,F,F,F,F,F]) (v := .pointer (some a56)) 51 rfl rfl (by kernel_rfl) rfl (wanted_of rfl rfl hb52) rfl (fun w_ K_ h_ => OpW.nilCheck (a := a56) (congrArg Value.pointer ha57) h_) ?_
      refine DL.takeP (listed' := #[T,T,T,T,T,T,T,T,T,T,T,T,T,T,T,T,T,T,T,T,T,T,T,T,T,T,T,T,T,T,T,T,T,T,T,T,T,T,T,T,T,T,T,T,T,T,T,T,T,F,T,T,T,F,F,F,F,F,F]) (v := .pointer (some (Addr.add a56 2))) 52 rfl rfl (by kernel_rfl) rfl (wanted_of rfl rfl hb52) rfl (fun w_ K_ h_ => OpW.fieldAddr field_54_2 rfl h_) ?_
      refine DL.takeP (listed' := #[T,T,T,T,T,T,T,T,T,T,T,T,T,T,T,T,T,T,T,T,T,T,T,T,T,T,T,T,T,T,T,T,T,T,T,T,T,T,T,T,T,T,T,T,T,T,T,T,T,F,T,T,T,T,F,F,F,F,F]) (v := .pointer (some (Addr.add (Addr.add a56 2) 0))) 53 rfl rfl (by kernel_rfl) rfl (wanted_of rfl rfl hb52) rfl (fun w_ K_ h_ => OpW.fieldAddr (off := 0) field_52_0 rfl h_) ?_
      refine DL.takeP (listed' := #[T,T,T,T,T,T,T,T,T,T,T,T,T,T,T,T,T,T,T,T,T,T,T,T,T,T,T,T,T,T,T,T,T,T,T,T,T,T,T,T,T,T,T,T,T,T,T,T,T,F,T,T,T,T,T,F,F,F,F]) (v := .pointer (some (Addr.add (Addr.add (Addr.add a56 2) 0) 3))) 54 rfl rfl (by kernel_rfl) rfl (wanted_of rfl rfl hb52) rfl (fun w_ K_ h_ => OpW.fieldAddr field_49_3 rfl h_) ?_
      obtain ⟨x58, h1, h⟩ := h
      refine DL.takeK (listed' := #[T,T,T,T,T,T,T,T,T,T,T,T,T,T,T,T,T,T,T,T,T,T,T,T,T,T,T,T,T,T,T,T,T,T,T,T,T,T,T,T,T,T,T,T,T,T,T,T,T,F,T,T,T,T,T,T,F,F,F]) (v := .int .i64 x58) 55 rfl rfl (by kernel_rfl) (by kernel_rfl) rfl (wanted_of rfl rfl hb52) rfl hx48 (fun w_ hS_ K_ h_ => OpW.load1 (v := .int .i64 x58) one_3 rfl (hS_.cell h1) h_) ?_
      refine DL.execS (listed' := #[T,T,T,T,T,T,T,T,T,T,T,T,T,T,T,T,T,T,T,T,T,T,T,T,T,T,T,T,T,T,T,T,T,T,T,T,T,T,T,T,T,T,T,T,T,T,T,T,T,T,T,T,T,T,T,T,F,F,F]) 49 rfl (by kernel_rfl) rfl (wanted_of rfl rfl hb52) rfl (OpW.callR (al := [.pointer x55]) Try.func19 fb_19 fn_19 rfl h (fun x59 w60 h => ?_))
      obtain ⟨hx61, h⟩ := h
      refine ⟨(fun _ _ => hx61), ?_⟩
      refine DL.takeP (listed' := #[T,T,T,T,T,T,T,T,T,T,T,T,T,T,T,T,T,T,T,T,T,T,T,T,T,T,T,T,T,T,T,T,T,T,T,T,T,T,T,T,T,T,T,T,T,T,T,T,T,T,T,T,T,T,T,T,T,F,F]) (v := .bool (decide (x59 = x58))) 56 rfl rfl (by kernel_rfl) rfl (wanted_of rfl rfl hb52) rfl (fun w_ K_ h_ => OpW.bin (k := .i64) (a := x59) (b := x58) (v := .bool (decide (x59 = x58))) rfl rfl rfl h_) ?_
      refine DL.takeP (listed' := #[T,T,T,T,T,T,T,T,T,T,T,T,T,T,T,T,T,T,T,T,T,T,T,T,T,T,T,T,T,T,T,T,T,T,T,T,T,T,T,T,T,T,T,T,T,T,T,T,T,T,T,T,T,T,T,T,T,T,F]) (v := .bool (decide (x59 = x58))) 57 rfl rfl (by kernel_rfl) rfl trivial rfl (fun w_ K_ h_ => OpW.pick (b := true) (v := .bool (decide (x59 = x58))) (congrArg Value.bool hb52) rfl h_) ?_
      exact hJJ51 _ _ ⟨(decide (x59 = x58)), rfl, h⟩
     ·have h := hc hb52; clear ha hc
      refine DL.skipP (listed' := #[T,T,T,T,T,T,T,T,T,T,T,T,T,T,T,T,T,T,T,T,T,T,T,T,T,T,T,T,T,T,T,T,T,T,T,T,T,T,T,T,T,T,T,T,T,T,F,F,F,F,F,F,F,F,F,F,F,F,F]) 45 rfl (by kernel_rfl) rfl (notWanted_of rfl rfl hb52) rfl ?_
      refine DL.skipP (listed' := #[T,T,T,T,T,T,T,T,T,T,T,T,T,T,T,T,T,T,T,T,T,T,T,T,T,T,T,T,T,T,T,T,T,T,T,T,T,T,T,T,T,T,T,T,T,T,T,F,F,F,F,F,F,F,F,F,F,F,F]) 46 rfl (by kernel_rfl) rfl (notWanted_of rfl rfl hb52) rfl ?_
      refine DL.skipP (listed' := #[T,T,T,T,T,T,T,T,T,T,T,T,T,T,T,T,T,T,T,T,T,T,T,T,T,T,T,T,T,T,T,T,T,T,T,T,T,T,T,T,T,T,T,T,T,T,T,T,F,F,F,F,F,F,F,F,F,F,F]) 47 rfl (by kernel_rfl) rfl (notWanted_of rfl rfl hb52) rfl ?_
      refine DL.skipP (listed' := #[T,T,T,T,T,T,T,T,T,T,T,T,T,T,T,T,T,T,T,T,T,T,T,T,T,T,T,T,T,T,T,T,T,T,T,T,T,T,T,T,T,T,T,T,T,T,T,T,T,F,F,F,F,F,F,F,F,F,F]) 48 rfl (by kernel_rfl) rfl (notWanted_of rfl rfl hb52) rfl ?_
      refine DL.skipP (listed' := #[T,T,T,T,T,T,T,T,T,T,T,T,T,T,T,T,T,T,T,T,T,T,T,T,T,T,T,T,T,T,T,T,T,T,T,T,T,T,T,T,T,T,T,T,T,T,T,T,T,F,T,F,F,F,F,F,F,F,F]) 50 rfl (by kernel_rfl) rfl (notWanted_of rfl rfl hb52) rfl ?_
      refine DL.skipP (listed' := #[T,T,T,T,T,T,T,T,T,T,T,T,T,T,T,T,T,T,T,T,T,T,T,T,T,T,T,T,T,T,T,T,T,T,T,T,T,T,T,T,T,T,T,T,T,T,T,T,T,F,T,T,F,F,F,F,F,F,F]) 51 rfl (by kernel_rfl) rfl (notWanted_of rfl rfl hb52) rfl ?_
      refine DL.skipP (listed' := #[T,T,T,T,T,T,T,T,T,T,T,T,T,T,T,T,T,T,T,T,T,T,T,T,T,T,T,T,T,T,T,T,T,T,T,T,T,T,T,T,T,T,T,T,T,T,T,T,T,F,T,T,T,F,F,F,F,F,F]) 52 rfl (by kernel_rfl) rfl (notWanted_of rfl rfl hb52) rfl ?_
      refine DL.skipP (listed' := #[T,T,T,T,T,T,T,T,T,T,T,T,T,T,T,T,T,T,T,T,T,T,T,T,T,T,T,T,T,T,T,T,T,T,T,T,T,T,T,T,T,T,T,T,T,T,T,T,T,F,T,T,T,T,F,F,F,F,F]) 53 rfl (by kernel_rfl) rfl (notWanted_of rfl rfl hb52) rfl ?_
      refine DL.skipP (listed' := #[T,T,T,T,T,T,T,T,T,T,T,T,T,T,T,T,T,T,T,T,T,T,T,T,T,T,T,T,T,T,T,T,T,T,T,T,T,T,T,T,T,T,T,T,T,T,T,T,T,F,T,T,T,T,T,F,F,F,F]) 54 rfl (by kernel_rfl) rfl (notWanted_of rfl rfl hb52) rfl ?_
      refine DL.skipP (listed' := #[T,T,T,T,T,T,T,T,T,T,T,T,T,T,T,T,T,T,T,T,T,T,T,T,T,T,T,T,T,T,T,T,T,T,T,T,T,T,T,T,T,T,T,T,T,T,T,T,T,F,T,T,T,T,T,T,F,F,F]) 55 rfl (by kernel_rfl) rfl (notWanted_of rfl rfl hb52) rfl ?_
      refine DL.skipX (listed' := #[T,T,T,T,T,T,T,T,T,T,T,T,T,T,T,T,T,T,T,T,T,T,T,T,T,T,T,T,T,T,T,T,T,T,T,T,T,T,T,T,T,T,T,T,T,T,T,T,T,T,T,T,T,T,T,T,F,F,F]) 49 rfl (by kernel_rfl) rfl (notWanted_of rfl rfl hb52) rfl ?_
      refine DL.skipP (listed' := #[T,T,T,T,T,T,T,T,T,T,T,T,T,T,T,T,T,T,T,T,T,T,T,T,T,T,T,T,T,T,T,T,T,T,T,T,T,T,T,T,T,T,T,T,T,T,T,T,T,T,T,T,T,T,T,T,T,F,F]) 56 rfl (by kernel_rfl) rfl (notWanted_of rfl rfl hb52) rfl ?_
      refine DL.takeP (listed' := #[T,T,T,T,T,T,T,T,T,T,T,T,T,T,T,T,T,T,T,T,T,T,T,T,T,T,T,T,T,T,T,T,T,T,T,T,T,T,T,T,T,T,T,T,T,T,T,T,T,T,T,T,T,T,T,T,T,T,F]) (v := .bool false) 57 rfl rfl (by kernel_rfl) rfl trivial rfl (fun w_ K_ h_ => OpW.pick (b := false) (v := .bool false) (congrArg Value.bool hb52) rfl h_) ?_
      exact hJJ51 _ _ ⟨false, rfl, h⟩
   ·intro hJJ35; clear hk69
    obtain ⟨ha, hc⟩ := h
    rcases Bool.eq_false_or_eq_true s30 with hb36 | hb36
    ·have h := ha hb36; clear ha hc
     refine DL.takeP (listed' := #[T,T,T,T,T,T,T,T,T,T,T,T,T,T,T,T,T,T,T,T,T,T,T,T,T,T,T,T,T,T,T,T,T,F,F,F,F,F,F,F,F,F,F,F,F,F,F,F,F,F,F,F,F,F,F,F,F,F,F]) (v := .pointer p0) 32 rfl rfl (by kernel_rfl) rfl (wanted_of rfl rfl hb36) rfl (fun w_ K_ h_ => OpW.move (v := .pointer p0) e34 h_) ?_
     obtain ⟨a37, ha38, h⟩ := h
     refine DL.takeP (listed' := #[T,T,T,T,T,T,T,T,T,T,T,T,T,T,T,T,T,T,T,T,T,T,T,T,T,T,T,T,T,T,T,T,T,T,F,F,F,F,F,F,F,F,F,F,F,F,F,F,F,F,F,F,F,F,F,F,F,F,F]) (v := .pointer (some a37)) 33 rfl rfl (by kernel_rfl) rfl (wanted_of rfl rfl hb36) rfl (fun w_ K_ h_ => OpW.nilCheck (a := a37) (congrArg Value.pointer ha38) h_) ?_
     refine DL.takeP (listed' := #[T,T,T,T,T,T,T,T,T,T,T,T,T,T,T,T,T,T,T,T,T,T,T,T,T,T,T,T,T,T,T,T,T,T,T,F,F,F,F,F,F,F,F,F,F,F,F,F,F,F,F,F,F,F,F,F,F,F,F]) (v := .pointer (some (Addr.add a37 1))) 34 rfl rfl (by kernel_rfl) rfl (wanted_of rfl rfl hb36) rfl (fun w_ K_ h_ => OpW.fieldAddr field_54_1 rfl h_) ?_
     obtain ⟨x39, h1, h⟩ := h
     refine DL.takeK (listed' := #[T,T,T,T,T,T,T,T,T,T,T,T,T,T,T,T,T,T,T,T,T,T,T,T,T,T,T,T,T,T,T,T,T,T,T,T,F,F,F,F,F,F,F,F,F,F,F,F,F,F,F,F,F,F,F,F,F,F,F]) (v := .pointer x39) 35 rfl rfl (by kernel_rfl) (by kernel_rfl) rfl (wanted_of rfl rfl hb36) rfl hx32 (fun w_ hS_ K_ h_ => OpW.load1 (v := .pointer x39) one_35 rfl (hS_.cell h1) h_) ?_
     refine DL.takeP (listed' := #[T,T,T,T,T,T,T,T,T,T,T,T,T,T,T,T,T,T,T,T,T,T,T,T,T,T,T,T,T,T,T,T,T,T,T,T,F,T,F,F,F,F,F,F,F,F,F,F,F,F,F,F,F,F,F,F,F,F,F]) (v := .pointer p0) 37 rfl rfl (by kernel_rfl) rfl (wanted_of rfl rfl hb36) rfl (fun w_ K_ h_ => OpW.move (v := .pointer p0) e34 h_) ?_
     obtain ⟨a40, ha41, h⟩ := h
     refine DL.takeP (listed' := #[T,T,T,T,T,T,T,T,T,T,T,T,T,T,T,T,T,T,T,T,T,T,T,T,T,T,T,T,T,T,T,T,T,T,T,T,F,T,T,F,F,F,F,F,F,F,F,F,F,F,F,F,F,F,F,F,F,F,F]) (v := .pointer (some a40)) 38 rfl rfl (by kernel_rfl) rfl (wanted_of rfl rfl hb36) rfl (fun w_ K_ h_ => OpW.nilCheck (a := a40) (congrArg Value.pointer ha41) h_) ?_
     refine DL.takeP (listed' := #[T,T,T,T,T,T,T,T,T,T,T,T,T,T,T,T,T,T,T,T,T,T,T,T,T,T,T,T,T,T,T,T,T,T,T,T,F,T,T,T,F,F,F,F,F,F,F,F,F,F,F,F,F,F,F,F,F,F,F]) (v := .pointer (some (Addr.add a40 2))) 39 rfl rfl (by kernel_rfl) rfl (wanted_of rfl rfl hb36) rfl (fun w_ K_ h_ => OpW.fieldAddr field_54_2 rfl h_) ?_
     refine DL.takeP (listed' := #[T,T,T,T,T,T,T,T,T,T,T,T,T,T,T,T,T,T,T,T,T,T,T,T,T,T,T,T,T,T,T,T,T,T,T,T,F,T,T,T,T,F,F,F,F,F,F,F,F,F,F,F,F,F,F,F,F,F,F]) (v := .pointer (some (Addr.add (Addr.add a40 2) 10))) 40 rfl rfl (by kernel_rfl) rfl (wanted_of rfl rfl hb36) rfl (fun w_ K_ h_ => OpW.fieldAddr field_52_6 rfl h_) ?_
     obtain ⟨x42, h1, h⟩ := h
     refine DL.takeK (listed' := #[T,T,T,T,T,T,T,T,T,T,T,T,T,T,T,T,T,T,T,T,T,T,T,T,T,T,T,T,T,T,T,T,T,T,T,T,F,T,T,T,T,T,F,F,F,F,F,F,F,F,F,F,F,F,F,F,F,F,F]) (v := .bool x42) 41 rfl rfl (by kernel_rfl) (by kernel_rfl) rfl (wanted_of rfl rfl hb36) rfl hx32 (fun w_ hS_ K_ h_ => OpW.load1 (v := .bool x42) one_4 rfl (hS_.cell h1) h_) ?_
     refine DL.execS (listed' := #[T,T,T,T,T,T,T,T,T,T,T,T,T,T,T,T,T,T,T,T,T,T,T,T,T,T,T,T,T,T,T,T,T,T,T,T,T,T,T,T,T,T,F,F,F,F,F,F,F,F,F,F,F,F,F,F,F,F,F]) 36 rfl (by kernel_rfl) rfl (wanted_of rfl rfl hb36) rfl (OpW.callR (al := [.pointer x39]) Try.func46 fb_46 fn_46 rfl h (fun x43 w44 h => ?_))
     obtain ⟨hx45, h⟩ := h
     refine ⟨(fun _ _ => hx45), ?_⟩
     refine DL.takeP (listed' := #[T,T,T,T,T,T,T,T,T,T,T,T,T,T,T,T,T,T,T,T,T,T,T,T,T,T,T,T,T,T,T,T,T,T,T,T,T,T,T,T,T,T,T,F,F,F,F,F,F,F,F,F,F,F,F,F,F,F,F]) (v := .bool (x43 == x42)) 42 rfl rfl (by kernel_rfl) rfl (wanted_of rfl rfl hb36) rfl (fun w_ K_ h_ => OpW.boolCmp (b := x43 == x42) ub_4 rfl rfl rfl h_) ?_
     refine DL.takeP (listed' := #[T,T,T,T,T,T,T,T,T,T,T,T,T,T,T,T,T,T,T,T,T,T,T,T,T,T,T,T,T,T,T,T,T,T,T,T,T,T,T,T,T,T,T,T,F,F,F,F,F,F,F,F,F,F,F,F,F,F,F]) (v := .bool (x43 == x42)) 43 rfl rfl (by kernel_rfl) rfl trivial rfl (fun w_ K_ h_ => OpW.pick (b := true) (v := .bool (x43 == x42)) (congrArg Value.bool hb36) rfl h_) ?_
     exact hJJ35 _ _ ⟨(x43 == x42), ⟨rfl, e34⟩, hx45, h⟩
    ·have h := hc hb36; clear ha hc
     refine DL.skipP (listed' := #[T,T,T,T,T,T,T,T,T,T,T,T,T,T,T,T,T,T,T,T,T,T,T,T,T,T,T,T,T,T,T,T,T,F,F,F,F,F,F,F,F,F,F,F,F,F,F,F,F,F,F,F,F,F,F,F,F,F,F]) 32 rfl (by kernel_rfl) rfl (notWanted_of rfl rfl hb36) rfl ?_
     refine DL.skipP (listed' := #[T,T,T,T,T,T,T,T,T,T,T,T,T,T,T,T,T,T,T,T,T,T,T,T,T,T,T,T,T,T,T,T,T,T,F,F,F,F,F,F,F,F,F,F,F,F,F,F,F,F,F,F,F,F,F,F,F,F,F]) 33 rfl (by kernel_rfl) rfl (notWanted_of rfl rfl hb36) rfl ?_
     refine DL.skipP (listed' := #[T,T,T,T,T,T,T,T,T,T,T,T,T,T,T,T,T,T,T,T,T,T,T,T,T,T,T,T,T,T,T,T,T,T,T,F,F,F,F,F,F,F,F,F,F,F,F,F,F,F,F,F,F,F,F,F,F,F,F]) 34 rfl (by kernel_rfl) rfl (notWanted_of rfl rfl hb36) rfl ?_
     refine DL.skipP (listed' := #[T,T,T,T,T,T,T,T,T,T,T,T,T,T,T,T,T,T,T,T,T,T,T,T,T,T,T,T,T,T,T,T,T,T,T,T,F,F,F,F,F,F,F,F,F,F,F,F,F,F,F,F,F,F,F,F,F,F,F]) 35 rfl (by kernel_rfl) rfl (notWanted_of rfl rfl hb36) rfl ?_
     refine DL.skipP (listed' := #[T,T,T,T,T,T,T,T,T,T,T,T,T,T,T,T,T,T,T,T,T,T,T,T,T,T,T,T,T,T,T,T,T,T,T,T,F,T,F,F,F,F,F,F,F,F,F,F,F,F,F,F,F,F,F,F,F,F,F]) 37 rfl (by kernel_rfl) rfl (notWanted_of rfl rfl hb36) rfl ?_
     refine DL.skipP (listed' := #[T,T,T,T,T,T,T,T,T,T,T,T,T,T,T,T,T,T,T,T,T,T,T,T,T,T,T,T,T,T,T,T,T,T,T,T,F,T,T,F,F,F,F,F,F,F,F,F,F,F,F,F,F,F,F,F,F,F,F]) 38 rfl (by kernel_rfl) rfl (notWanted_of rfl rfl hb36) rfl ?_
     refine DL.skipP (listed' := #[T,T,T,T,T,T,T,T,T,T,T,T,T,T,T,T,T,T,T,T,T,T,T,T,T,T,T,T,T,T,T,T,T,T,T,T,F,T,T,T,F,F,F,F,F,F,F,F,F,F,F,F,F,F,F,F,F,F,F]) 39 rfl (by kernel_rfl) rfl (notWanted_of rfl rfl hb36) rfl ?_
     refine DL.skipP (listed' := #[T,T,T,T,T,T,T,T,T,T,T,T,T,T,T,T,T,T,T,T,T,T,T,T,T,T,T,T,T,T,T,T,T,T,T,T,F,T,T,T,T,F,F,F,F,F,F,F,F,F,F,F,F,F,F,F,F,F,F]) 40 rfl (by kernel_rfl) rfl (notWanted_of rfl rfl hb36) rfl ?_
     refine DL.skipP (listed' := #[T,T,T,T,T,T,T,T,T,T,T,T,T,T,T,T,T,T,T,T,T,T,T,T,T,T,T,T,T,T,T,T,T,T,T,T,F,T,T,T,T,T,F,F,F,F,F,F,F,F,F,F,F,F,F,F,F,F,F]) 41 rfl (by kernel_rfl) rfl (notWanted_of rfl rfl hb36) rfl ?_
     refine DL.skipX (listed' := #[T,T,T,T,T,T,T,T,T,T,T,T,T,T,T,T,T,T,T,T,T,T,T,T,T,T,T,T,T,T,T,T,T,T,T,T,T,T,T,T,T,T,F,F,F,F,F,F,F,F,F,F,F,F,F,F,F,F,F]) 36 rfl (by kernel_rfl) rfl (notWanted_of rfl rfl hb36) rfl ?_
     refine DL.skipP (listed' := #[T,T,T,T,T,T,T,T,T,T,T,T,T,T,T,T,T,T,T,T,T,T,T,T,T,T,T,T,T,T,T,T,T,T,T,T,T,T,T,T,T,T,T,F,F,F,F,F,F,F,F,F,F,F,F,F,F,F,F]) 42 rfl (by kernel_rfl) rfl (notWanted_of rfl rfl hb36) rfl ?_
     refine DL.takeP (listed' := #[T,T,T,T,T,T,T,T,T,T,T,T,T,T,T,T,T,T,T,T,T,T,T,T,T,T,T,T,T,T,T,T,T,T,T,T,T,T,T,T,T,T,T,T,F,F,F,F,F,F,F,F,F,F,F,F,F,F,F]) (v := .bool false) 43 rfl rfl (by kernel_rfl) rfl trivial rfl (fun w_ K_ h_ => OpW.pick (b := false) (v := .bool false) (congrArg Value.bool hb36) rfl h_) ?_
     exact hJJ35 _ _ ⟨false, ⟨rfl, e34⟩, hx32, h⟩
  ·intro hJJ19; clear hk71
   obtain ⟨ha, hc⟩ := h
   rcases Bool.eq_false_or_eq_true (decide (x16 = (IntKind.i64.wrap (x12 - (x15.length : Int))))) with hb20 | hb20
   ·have h := ha hb20; clear ha hc
    refine DL.takeP (listed' := #[T,T,T,T,T,T,T,T,T,T,T,T,T,T,T,T,T,T,T,T,F,F,F,F,F,F,F,F,F,F,F,F,F,F,F,F,F,F,F,F,F,F,F,F,F,F,F,F,F,F,F,F,F,F,F,F,F,F,F]) (v := .pointer p0) 19 rfl rfl (by kernel_rfl) rfl (wanted_of rfl rfl hb20) rfl (fun w_ K_ h_ => OpW.move (v := .pointer p0) rfl h_) ?_
    obtain ⟨a21, ha22, h⟩ := h
    refine DL.takeP (listed' := #[T,T,T,T,T,T,T,T,T,T,T,T,T,T,T,T,T,T,T,T,T,F,F,F,F,F,F,F,F,F,F,F,F,F,F,F,F,F,F,F,F,F,F,F,F,F,F,F,F,F,F,F,F,F,F,F,F,F,F]) (v := .pointer (some a21)) 20 rfl rfl (by kernel_rfl) rfl (wanted_of rfl rfl hb20) rfl (fun w_ K_ h_ => OpW.nilCheck (a := a21) (congrArg Value.pointer ha22) h_) ?_
    refine DL.takeP (listed' := #[T,T,T,T,T,T,T,T,T,T,T,T,T,T,T,T,T,T,T,T,T,T,F,F,F,F,F,F,F,F,F,F,F,F,F,F,F,F,F,F,F,F,F,F,F,F,F,F,F,F,F,F,F,F,F,F,F,F,F]) (v := .pointer (some (Addr.add a21 1))) 21 rfl rfl (by kernel_rfl) rfl (wanted_of rfl rfl hb20) rfl (fun w_ K_ h_ => OpW.fieldAddr field_54_1 rfl h_) ?_
    obtain ⟨x23, h1, h⟩ := h
    refine DL.takeK (listed' := #[T,T,T,T,T,T,T,T,T,T,T,T,T,T,T,T,T,T,T,T,T,T,T,F,F,F,F,F,F,F,F,F,F,F,F,F,F,F,F,F,F,F,F,F,F,F,F,F,F,F,F,F,F,F,F,F,F,F,F]) (v := .pointer x23) 22 rfl rfl (by kernel_rfl) (by kernel_rfl) rfl (wanted_of rfl rfl hb20) rfl hx18 (fun w_ hS_ K_ h_ => OpW.load1 (v := .pointer x23) one_35 rfl (hS_.cell h1) h_) ?_
    refine DL.takeP (listed' := #[T,T,T,T,T,T,T,T,T,T,T,T,T,T,T,T,T,T,T,T,T,T,T,F,T,F,F,F,F,F,F,F,F,F,F,F,F,F,F,F,F,F,F,F,F,F,F,F,F,F,F,F,F,F,F,F,F,F,F]) (v := .pointer p0) 24 rfl rfl (by kernel_rfl) rfl (wanted_of rfl rfl hb20) rfl (fun w_ K_ h_ => OpW.move (v := .pointer p0) rfl h_) ?_
    obtain ⟨a24, ha25, h⟩ := h
    refine DL.takeP (listed' := #[T,T,T,T,T,T,T,T,T,T,T,T,T,T,T,T,T,T,T,T,T,T,T,F,T,T,F,F,F,F,F,F,F,F,F,F,F,F,F,F,F,F,F,F,F,F,F,F,F,F,F,F,F,F,F,F,F,F,F]) (v := .pointer (some a24)) 25 rfl rfl (by kernel_rfl) rfl (wanted_of rfl rfl hb20) rfl (fun w_ K_ h_ => OpW.nilCheck (a := a24) (congrArg Value.pointer ha25) h_) ?_
    refine DL.takeP (listed' := #[T,T,T,T,T,T,T,T,T,T,T,T,T,T,T,T,T,T,T,T,T,T,T,F,T,T,T,F,F,F,F,F,F,F,F,F,F,F,F,F,F,F,F,F,F,F,F,F,F,F,F,F,F,F,F,F,F,F,F]) (v := .pointer (some (Addr.add a24 2))) 26 rfl rfl (by kernel_rfl) rfl (wanted_of rfl rfl hb20) rfl (fun w_ K_ h_ => OpW.fieldAddr field_54_2 rfl h_) ?_
    refine DL.takeP (listed' := #[T,T,T,T,T,T,T,T,T,T,T,T,T,T,T,T,T,T,T,T,T,T,T,F,T,T,T,T,F,F,F,F,F,F,F,F,F,F,F,F,F,F,F,F,F,F,F,F,F,F,F,F,F,F,F,F,F,F,F]) (v := .pointer (some (Addr.add (Addr.add a24 2) 9))) 27 rfl rfl (by kernel_rfl) rfl (wanted_of rfl rfl hb20) rfl (fun w_ K_ h_ => OpW.fieldAddr field_52_5 rfl h_) ?_
    obtain ⟨x26, h1, h⟩ := h
    refine DL.takeK (listed' := #[T,T,T,T,T,T,T,T,T,T,T,T,T,T,T,T,T,T,T,T,T,T,T,F,T,T,T,T,T,F,F,F,F,F,F,F,F,F,F,F,F,F,F,F,F,F,F,F,F,F,F,F,F,F,F,F,F,F,F]) (v := .int .i64 x26) 28 rfl rfl (by kernel_rfl) (by kernel_rfl) rfl (wanted_of rfl rfl hb20) rfl hx18 (fun w_ hS_ K_ h_ => OpW.load1 (v := .int .i64 x26) one_3 rfl (hS_.cell h1) h_) ?_
    refine DL.execS (listed' := #[T,T,T,T,T,T,T,T,T,T,T,T,T,T,T,T,T,T,T,T,T,T,T,T,T,T,T,T,T,F,F,F,F,F,F,F,F,F,F,F,F,F,F,F,F,F,F,F,F,F,F,F,F,F,F,F,F,F,F]) 23 rfl (by kernel_rfl) rfl (wanted_of rfl rfl hb20) rfl (OpW.callR (al := [.pointer x23]) Try.func22 fb_22 fn_22 rfl h (fun x27 w28 h => ?_))
    obtain ⟨hx29, h⟩ := h
    refine ⟨(fun _ _ => hx29), ?_⟩
    refine DL.takeP (listed' := #[T,T,T,T,T,T,T,T,T,T,T,T,T,T,T,T,T,T,T,T,T,T,T,T,T,T,T,T,T,T,F,F,F,F,F,F,F,F,F,F,F,F,F,F,F,F,F,F,F,F,F,F,F,F,F,F,F,F,F]) (v := .bool (decide (x27 = x26))) 29 rfl rfl (by kernel_rfl) rfl (wanted_of rfl rfl hb20) rfl (fun w_ K_ h_ => OpW.bin (k := .i64) (a := x27) (b := x26) (v := .bool (decide (x27 = x26))) rfl rfl rfl h_) ?_
    refine DL.takeP (listed' := #[T,T,T,T,T,T,T,T,T,T,T,T,T,T,T,T,T,T,T,T,T,T,T,T,T,T,T,T,T,T,T,F,F,F,F,F,F,F,F,F,F,F,F,F,F,F,F,F,F,F,F,F,F,F,F,F,F,F,F]) (v := .bool (decide (x27 = x26))) 30 rfl rfl (by kernel_rfl) rfl trivial rfl (fun w_ K_ h_ => OpW.pick (b := true) (v := .bool (decide (x27 = x26))) (congrArg Value.bool hb20) rfl h_) ?_
    exact hJJ19 _ _ ⟨(decide (x27 = x26)), ⟨rfl, rfl⟩, hx29, h⟩
   ·have h := hc hb20; clear ha hc
    refine DL.skipP (listed' := #[T,T,T,T,T,T,T,T,T,T,T,T,T,T,T,T,T,T,T,T,F,F,F,F,F,F,F,F,F,F,F,F,F,F,F,F,F,F,F,F,F,F,F,F,F,F,F,F,F,F,F,F,F,F,F,F,F,F,F]) 19 rfl (by kernel_rfl) rfl (notWanted_of rfl rfl hb20) rfl ?_
    refine DL.skipP (listed' := #[T,T,T,T,T,T,T,T,T,T,T,T,T,T,T,T,T,T,T,T,T,F,F,F,F,F,F,F,F,F,F,F,F,F,F,F,F,F,F,F,F,F,F,F,F,F,F,F,F,F,F,F,F,F,F,F,F,F,F]) 20 rfl (by kernel_rfl) rfl (notWanted_of rfl rfl hb20) rfl ?_
    refine DL.skipP (listed' := #[T,T,T,T,T,T,T,T,T,T,T,T,T,T,T,T,T,T,T,T,T,T,F,F,F,F,F,F,F,F,F,F,F,F,F,F,F,F,F,F,F,F,F,F,F,F,F,F,F,F,F,F,F,F,F,F,F,F,F]) 21 rfl (by kernel_rfl) rfl (notWanted_of rfl rfl hb20) rfl ?_
    refine DL.skipP (listed' := #[T,T,T,T,T,T,T,T,T,T,T,T,T,T,T,T,T,T,T,T,T,T,T,F,F,F,F,F,F,F,F,F,F,F,F,F,F,F,F,F,F,F,F,F,F,F,F,F,F,F,F,F,F,F,F,F,F,F,F]) 22 rfl (by kernel_rfl) rfl (notWanted_of rfl rfl hb20) rfl ?_
    refine DL.skipP (listed' := #[T,T,T,T,T,T,T,T,T,T,T,T,T,T,T,T,T,T,T,T,T,T,T,F,T,F,F,F,F,F,F,F,F,F,F,F,F,F,F,F,F,F,F,F,F,F,F,F,F,F,F,F,F,F,F,F,F,F,F]) 24 rfl (by kernel_rfl) rfl (notWanted_of rfl rfl hb20) rfl ?_
    refine DL.skipP (listed' := #[T,T,T,T,T,T,T,T,T,T,T,T,T,T,T,T,T,T,T,T,T,T,T,F,T,T,F,F,F,F,F,F,F,F,F,F,F,F,F,F,F,F,F,F,F,F,F,F,F,F,F,F,F,F,F,F,F,F,F]) 25 rfl (by kernel_rfl) rfl (notWanted_of rfl rfl hb20) rfl ?_
    refine DL.skipP (listed' := #[T,T,T,T,T,T,T,T,T,T,T,T,T,T,T,T,T,T,T,T,T,T,T,F,T,T,T,F,F,F,F,F,F,F,F,F,F,F,F,F,F,F,F,F,F,F,F,F,F,F,F,F,F,F,F,F,F,F,F]) 26 rfl (by kernel_rfl) rfl (notWanted_of rfl rfl hb20) rfl ?_
    refine DL.skipP (listed' := #[T,T,T,T,T,T,T,T,T,T,T,T,T,T,T,T,T,T,T,T,T,T,T,F,T,T,T,T,F,F,F,F,F,F,F,F,F,F,F,F,F,F,F,F,F,F,F,F,F,F,F,F,F,F,F,F,F,F,F]) 27 rfl (by kernel_rfl) rfl (notWanted_of rfl rfl hb20) rfl ?_
    refine DL.skipP (listed' := #[T,T,T,T,T,T,T,T,T,T,T,T,T,T,T,T,T,T,T,T,T,T,T,F,T,T,T,T,T,F,F,F,F,F,F,F,F,F,F,F,F,F,F,F,F,F,F,F,F,F,F,F,F,F,F,F,F,F,F]) 28 rfl (by kernel_rfl) rfl (notWanted_of rfl rfl hb20) rfl ?_
    refine DL.skipX (listed' := #[T,T,T,T,T,T,T,T,T,T,T,T,T,T,T,T,T,T,T,T,T,T,T,T,T,T,T,T,T,F,F,F,F,F,F,F,F,F,F,F,F,F,F,F,F,F,F,F,F,F,F,F,F,F,F,F,F,F,F]) 23 rfl (by kernel_rfl) rfl (notWanted_of rfl rfl hb20) rfl ?_
    refine DL.skipP (listed' := #[T,T,T,T,T,T,T,T,T,T,T,T,T,T,T,T,T,T,T,T,T,T,T,T,T,T,T,T,T,T,F,F,F,F,F,F,F,F,F,F,F,F,F,F,F,F,F,F,F,F,F,F,F,F,F,F,F,F,F]) 29 rfl (by kernel_rfl) rfl (notWanted_of rfl rfl hb20) rfl ?_
    refine DL.takeP (listed' := #[T,T,T,T,T,T,T,T,T,T,T,T,T,T,T,T,T,T,T,T,T,T,T,T,T,T,T,T,T,T,T,F,F,F,F,F,F,F,F,F,F,F,F,F,F,F,F,F,F,F,F,F,F,F,F,F,F,F,F]) (v := .bool false) 30 rfl rfl (by kernel_rfl) rfl trivial rfl (fun w_ K_ h_ => OpW.pick (b := false) (v := .bool false) (congrArg Value.bool hb20) rfl h_) ?_
    exact hJJ19 _ _ ⟨false, ⟨rfl, rfl⟩, hx18, h⟩
end Go.Proofs.Ytagkcbbbdlmcjaa
end
section
/- Both journals: they are opened, and tell the same of themselves. -/
namespace Go.Proofs.Ytagkcbbbdlmcjaa
open Go.Lift Go.Lift.Disk Go.Lift.Crc Go.Lift.Wal Go.RowKit
/-! ### a write into a journal's place does not meet the disk's rows -/
theorem blk_pos {w : World} {g : Nat} {e : TypeId} {cs : List Value} {a : Addr} {v : Value} (hB : Blk w g e cs) (hc : w.cell? a = some v) (hb : a.block = g) : ∃ o, a = ⟨g, o, none⟩ := by
 have hB' : w.heap[g]? = some (.cells cs.toArray e (0, 0)) := hB
 obtain ⟨b, o, sp⟩ := a
 simp only at hb
 subst hb
 cases sp with
 | none => exact ⟨o, rfl⟩
 | some s =>
  unfold World.cell? at hc
  simp only [hB'] at hc
  simp at hc
section
variable {w w' : World} {g : Nat}
theorem RAt.frJ {B : Nat → Prop} {cs : List Value} {D : Dk} (h : RAt w B cs D) (hwf : D.Wf) (hB : Blk w g 52 jz) (hf : Fr (· = g) w w') : RAt w' B cs D := by
 obtain ⟨ss, sp, sf, e, h⟩ := h
 refine ⟨ss, sp, sf, e, ⟨h.sure.len, ?_⟩, ⟨h.pend.len, ?_⟩, ⟨h.falls.len, h.falls.cap, ?_, h.falls.nil, h.falls.keep⟩, h.f1, h.f2, h.f3⟩
 ·refine hf.atO (fun a ha e => ?_) h.sure.cells
  have hpos : 0 < (D.bl.map (·.2)).length := by rw [List.length_map]; exact hwf.pos
  obtain ⟨a', ha', hc⟩ := h.sure.get hpos
  rw [ha] at ha'
  cases ha'
  have hm := blk_mem hB hc (by rw [add_block]; exact e)
  have hl : (D.bl.map (·.2))[0].length = 512 := by
   rw [List.getElem_map]
   exact (hwf.bl _ (List.getElem_mem (by rw [List.length_map] at hpos; exact hpos))).2
  simp only [List.mem_cons, List.not_mem_nil, or_false] at hm
  have : (D.bl.map (·.2))[0] = [] := by
   rcases hm with h | h | h | h | h | h | h | h | h | h | h <;> simp at h
   rw [List.getElem_map]
   exact h
  rw [this] at hl
  cases hl
 ·by_cases hl : 0 < D.pend.length
  ·refine hf.atO (fun a ha e => ?_) h.pend.cells
   obtain ⟨a', ha', hc⟩ := h.pend.get hl
   rw [ha] at ha'
   cases ha'
   have h1 := hc 1 _ rfl
   have hm := blk_mem hB h1 (by rw [add_block, add_block]; exact e)
   have hl5 := (hwf.pend _ (List.getElem_mem hl)).2
   simp only [List.mem_cons, List.not_mem_nil, or_false] at hm
   have : D.pend[0].2 = [] := by
    rcases hm with h | h | h | h | h | h | h | h | h | h | h <;> simp at h
    exact h
   rw [this] at hl5
   cases hl5
  ·have : D.pend = [] := List.eq_nil_of_length_eq_zero (by omega)
   rw [this]
   exact atO_nil _ _
 ·by_cases hl : 0 < D.falls.length
  ·refine hf.atO (fun a ha e => ?_) h.falls.cells
   have hc := h.falls.cells
   rw [ha] at hc
   have h0 := fallC_at (l := D.falls) (k := 0) hl
   have hat : At w (a.add 0) (fallOf D.falls[0]) := by
    have := At.sub hc 0 3
    rw [Nat.zero_mul] at h0
    rw [h0] at this
    exact this
   have c1 := hat 1 _ rfl
   have c2 := hat 2 _ rfl
   have c0 := hat 0 _ rfl
   obtain ⟨o0, ho0⟩ := blk_pos hB (by simpa [Addr.add] using c0) e
   subst ho0
   rw [add_plain, add_plain] at c1 c2
   have hB' : w.heap[g]? = some (.cells jz.toArray 52 (0, 0)) := hB
   rw [cell_of_row w g _ jz.toArray 52 (0, 0) hB'] at c1 c2
   simp only [List.getElem?_toArray] at c1 c2
   have hlt : o0 + 0 + 1 < 11 := by
    rcases Nat.lt_or_ge (o0 + 0 + 1) 11 with h | h
    ·exact h
    ·rw [List.getElem?_eq_none (by simpa using h)] at c1; cases c1
   have hcs : o0 = 0 ∨ o0 = 1 ∨ o0 = 2 ∨ o0 = 3 ∨ o0 = 4 ∨ o0 = 5 ∨ o0 = 6 ∨ o0 = 7 ∨ o0 = 8 ∨ o0 = 9 := by omega
   rcases hcs with rfl | rfl | rfl | rfl | rfl | rfl | rfl | rfl | rfl | rfl <;> simp at c1 c2
  ·have : D.falls = [] := List.eq_nil_of_length_eq_zero (by omega)
   rw [this]
   exact atO_nil _ _
theorem OwnParts.fr {X : Nat → Prop} {base : Nat} {s : Sl} {l : List (List UInt8)} (h : OwnParts w base s l) (hf : Fr X w w') (hX : ∀ k, base ≤ k → ¬ X k) : OwnParts w' base s l := by
 obtain ⟨ss, h1, h2, h3⟩ := h
 exact ⟨ss, h1, hf.own (fun b hb => hX _ (Own.ge5 h2 b hb)) h2, fun k s b hs hb => hf.own (fun c hc => hX _ (Own.ge5 (h3 k s b hs hb) c hc)) (h3 k s b hs hb)⟩
end
theorem play_head {n k : Nat} {D : Dk} (h : Play n k D) (frm seq m : Nat) : Play n (k + 2) (headW D frm seq m).1 := by
 unfold headW
 split
 ·exact play_flush (play_write h _ _)
 ·exact play_mono (play_write h _ _) (Nat.le_succ _)
theorem play_open {n k : Nat} {D : Dk} (h : Play n k D) (frm room : Nat) : Play n (k + 2) (openD D frm room).1 := by
 have h0 := play_mono h (show k ≤ k + 2 by omega)
 unfold openD
 split
 ·exact h0
 ·split
  ·have := play_head h frm 1 0
   split <;> exact this
  ·split <;> exact h0
theorem Play.bnd {n k : Nat} {D : Dk} (h : Play n k D) {m : Nat} (hm : k + m < 1000000) : Bnd D m := ⟨by have := h.ch; omega, by have := h.pend; omega⟩
/-- the place of both -/
def bC (pd : Nat) (lptr : Option Addr) (xs : List Value) : List Value := [.pointer (dp pd), .pointer lptr] ++ xs
/-- the program's and the document's journal, over one plain disk -/
structure Both (w0 w : World) (pd bb q n frm room k : Nat) (D : Dk) : Prop where
 play : Play n k D
 ext : Ext w0 w
 hq : w0.heap.size ≤ q
 disk : DAt w (fun k => w0.heap.size ≤ k ∧ k ≠ q) pd bb D
 ex : ∃ lptr cs J plx, Blk w q 54 (bC pd lptr (jc cs frm room J.seq J.data J.count J.broken)) ∧ RAt w (fun k => ¬ Foot pd bb k ∧ k ≠ q ∧ k ≠ plx) cs D ∧ LgWf J frm room ∧
  ((lptr = lp plx ∧ WAt w (fun k => w0.heap.size ≤ k ∧ k ≠ q) pd bb plx frm room D J) ∨ (lptr = none ∧ J.broken = true ∧ plx = q))
theorem bC_set1 {pd : Nat} {l l' : Option Addr} {xs : List Value} : (bC pd l xs).set 1 (.pointer l') = bC pd l' xs := rfl
theorem bC_len {pd : Nat} {l : Option Addr} {xs : List Value} (h : xs.length = 11) : (bC pd l xs).length = 13 := by simp [bC, h]
theorem bC_splice {pd : Nat} {l : Option Addr} {xs ys : List Value} (hx : xs.length = 11) (hy : ys.length = 11) : splice (bC pd l xs) 2 ys = bC pd l ys := by
 unfold splice bC
 rw [show 2 + ys.length = ys.length + 1 + 1 by omega]
 simp
 omega
theorem bC_cell {w : World} {q pd frm room seq count : Nat} {data : List UInt8} {br : Bool} {l : Option Addr} {cs : List Value} (hl : cs.length = 5) (hB : Blk w q 54 (bC pd l (jc cs frm room seq data count br))) :
  w.cell? ⟨q, 0, none⟩ = some (.pointer (dp pd)) ∧ w.cell? ⟨q, 1, none⟩ = some (.pointer l) ∧ At w ⟨q, 2, none⟩ cs ∧ w.cell? ⟨q, 7, none⟩ = some (.int .i64 (frm : Int)) ∧ w.cell? ⟨q, 8, none⟩ = some (.int .i64 (room : Int)) ∧
   w.cell? ⟨q, 9, none⟩ = some (.int .u64 (seq : Int)) ∧ w.cell? ⟨q, 10, none⟩ = some (str data) ∧ w.cell? ⟨q, 11, none⟩ = some (.int .i64 (count : Int)) ∧ w.cell? ⟨q, 12, none⟩ = some (.bool br) ∧ At w ⟨q, 2, none⟩ (jc cs frm room seq data count br) := by
 obtain ⟨a, b, c, d, e, rfl⟩ := list5 hl
 exact ⟨hB.cell rfl, hB.cell rfl, hB.at rfl, hB.cell rfl, hB.cell rfl, hB.cell rfl, hB.cell rfl, hB.cell rfl, hB.cell rfl, hB.at rfl⟩
theorem bC_broken {pd frm room seq count : Nat} {data : List UInt8} {br : Bool} {l : Option Addr} {cs : List Value} (hl : cs.length = 5) : (bC pd l (jc cs frm room seq data count br)).set 12 (.bool true) = bC pd l (jc cs frm room seq data count true) := by
 obtain ⟨a, b, c, d, e, rfl⟩ := list5 hl
 rfl
theorem openD_count {D D' : Dk} {frm room : Nat} {L : Lg} {rs : List (List UInt8)} (h : openD D frm room = (D', .is L rs)) : L.count = rs.length := by
 unfold openD at h
 split at h
 ·cases h
 ·split at h
  ·split at h
   ·cases h; rfl
   ·cases h
  ·split at h
   ·cases h; rfl
   ·cases h
theorem Both.lt {w0 w : World} {pd bb q n frm room k : Nat} {D : Dk} (h : Both w0 w pd bb q n frm room k D) : w0.heap.size ≤ pd ∧ pd ≠ q ∧ w0.heap.size ≤ bb ∧ bb ≠ q ∧ pd < w.heap.size ∧ bb < w.heap.size ∧ q < w.heap.size := by
 obtain ⟨h1, h2, h3, h4⟩ := h.disk.lt
 obtain ⟨lptr, cs, J, plx, hB, _⟩ := h.ex
 exact ⟨h1.1, h1.2, h2.1, h2.2, h3, h4, hB.lt⟩
theorem Both.openIt {w0 w : World} {pd bb q n frm blocks k r0 : Nat} {D : Dk} {lptr : Option Addr} {cs : List Value} {J : Lg} (hP : Play n k D) (hx0 : Ext w0 w) (hq : w0.heap.size ≤ q)
  (hD : DAt w (fun k => w0.heap.size ≤ k ∧ k ≠ q) pd bb D) (hB : Blk w q 54 (bC pd lptr (jc cs frm r0 J.seq J.data J.count J.broken))) (hA : RAt w (fun k => ¬ Foot pd bb k ∧ k ≠ q) cs D)
  (h3 : 3 ≤ blocks) (hfit : frm + blocks ≤ n) (hn : n ≤ 4096) (hk : k < 90000) :
  Calls Try.prog 25 #[.pointer (some ⟨q, 0, none⟩), .int .i64 (blocks : Int)] w (Ret r25 fun x w' => x = true ∧ Both w0 w' pd bb q n frm (roomOf blocks) (k + 2) (openD D frm (roomOf blocks)).1) := by
 have hwf := hD.wf
 obtain ⟨hpd, hbb, hpdl, hbbl⟩ := hD.lt
 have hql := hB.lt
 have hcl := hA.len
 have hqF : ¬ Foot pd bb q := by
  rintro (e | e)
  ·exact hpd.2 e.symm
  ·exact hbb.2 e.symm
 obtain ⟨c0, c1, c2, c7, c8, c9, c10, c11, c12, cj⟩ := bC_cell hcl hB
 apply s25_calls
 intro w1 hw1
 have hx1 : Ext w w1 := by subst hw1; exact Ext.drew _
 refine ⟨_, rfl, dp pd, by rw [add_plain]; exact c0, _, rfl, (frm : Int), by rw [add_plain, add_plain]; exact c7, ?_⟩
 have hs0 := hx0.size
 have hPl := hP.len
 refine cR_of (open_ok (hD.ext hx1) (fun k hk => ⟨Nat.le_trans (hx0.trans hx1).size hk, by have := hx1.size; omega⟩) frm blocks h3 (by rw [hPl]; exact hfit) (hP.bnd (by omega))) ?_
 rintro ⟨x9a, x9b, x9c⟩ w10 hO
 have hs1 := hx1.size
 -- what the opening leaves, in both cases
 have hF10 : Fr (Foot pd bb) w1 w10 := by
  revert hO
  cases hr : openD D frm (roomOf blocks) with
  | mk D' r =>
   cases r with
   | fails e => exact fun h => h.2.2
   | is L rs => exact fun ⟨_, _, _, _, _, _, h⟩ => h
 have hFw : Fr (Foot pd bb) w w10 := (Fr.of hx1).trans hF10
 have hx10 : Ext w0 w10 := footExt hFw hx0 hpd.1 hbb.1
 have hB10 := hB.fr hFw hqF
 have hA10 : RAt w10 (fun k => ¬ Foot pd bb k ∧ k ≠ q) cs D := hA.foot hFw fun k hk => hk.1
 obtain ⟨d0, d1, d2, d7, d8, d9, d10, d11, d12, dj⟩ := bC_cell hcl hB10
 intro w11 hw11
 have hx11 : Ext w10 w11 := by subst hw11; exact Ext.drew _
 refine ⟨_, rfl, cs, hcl, by rw [add_plain, add_plain]; exact d2, _, rfl, (frm : Int), by rw [add_plain, add_plain]; exact d7, ?_⟩
 have hs10 := hFw.size
 have hs11 := hx11.size
 -- the new journal's place is not the document's
 have hex : ∃ pl2, (∀ k, k < w.heap.size → k ≠ pl2 ∨ pl2 = q) ∧ pl2 < w10.heap.size ∧ ((x9a = none ∧ pl2 = q) ∨ (x9a = lp pl2 ∧ w.heap.size ≤ pl2)) := by
  revert hO
  cases hr : openD D frm (roomOf blocks) with
  | mk D' r =>
   cases r with
   | fails e =>
    rintro ⟨e1, _, _⟩
    cases e1
    exact ⟨q, fun k _ => .inr rfl, by omega, .inl ⟨rfl, rfl⟩⟩
   | is L rs =>
    rintro ⟨pl, e1, hpl, _, _, hW, _⟩
    exact ⟨pl, fun k hk => .inl (by omega), hW.lt.2.2.2.1, .inr ⟨e1, by omega⟩⟩
 obtain ⟨pl2, hp1, hp2, hp3⟩ := hex
 have hA10' : RAt w10 (fun k => ¬ Foot pd bb k ∧ k ≠ q ∧ k ≠ pl2) cs D := (hA.mono (B' := fun k => ¬ Foot pd bb k ∧ k ≠ q ∧ k ≠ pl2) fun k hk hu => ⟨hu.1, hu.2, by
  rcases hp1 k hk with h | h
  ·exact h
  ·rw [h]; exact hu.2⟩).foot hFw fun k hk => hk.1
 have hBn : ∀ {v : World}, w10.heap.size ≤ v.heap.size → ∀ k, v.heap.size ≤ k → (¬ Foot pd bb k ∧ k ≠ q ∧ k ≠ pl2) := by
  intro v hv k hk
  exact ⟨by rintro (e | e) <;> omega, by omega, by omega⟩
 refine ⟨fun _ x v => ROpenR w11.heap.size v (fun k => ¬ Foot pd bb k ∧ k ≠ q ∧ k ≠ pl2) frm (roomOf blocks) x (openD D frm (roomOf blocks)), fun _ _ _ _ hx h => h.ext hx, fun _ v hv _ => ?_, ?_⟩
 ·refine cR_of (ropen_ok ((hA10'.ext hx11).ext hv) hwf hP (by omega) (hBn (Nat.le_trans hs11 hv.size)) frm blocks h3 hfit hn) ?_
  rintro x w' ⟨hx, hr⟩
  exact ⟨hx, hr.lower hv.size⟩
 refine ⟨fun _ x v => ∃ b, x = ⟨b, 0, none⟩ ∧ Blk v b 52 jz ∧ w11.heap.size ≤ b, fun _ _ _ _ hx ⟨b, h1, h2, h3⟩ => ⟨b, h1, h2.ext hx, h3⟩, fun _ v hv _ => ?_, ?_⟩
 ·intro b28 w29 hb28 hw29
  exact ⟨Ext.new hw29, b28, rfl, Blk.new hb28 hw29, by rw [hb28]; exact hv.size⟩
 rintro ⟨x19a, x19b, x19c⟩ x20 w33 hx33 hR ⟨b, rfl, hb33, hbw⟩
 have hqb : q ≠ b := by omega
 have hx33' := hx11.trans hx33
 have hB33 := hB10.ext hx33'
 -- what is stored: a journal of the document's
 have hJ33 : ∃ J', LgWf J' frm (roomOf blocks) ∨ True := ⟨J, .inr trivial⟩
 have hstore : ∃ (J' : Lg), JAt w33 (fun k => ¬ Foot pd bb k ∧ k ≠ q ∧ k ≠ pl2) x19a (openD D frm (roomOf blocks)).1 frm (roomOf blocks) J' := by
  revert hR
  cases hr : openD D frm (roomOf blocks) with
  | mk D' r =>
   cases r with
   | fails e => exact fun ⟨_, _, J', _, h⟩ => ⟨J', h⟩
   | is L rs => exact fun ⟨_, h, _, _⟩ => ⟨L, h⟩
 obtain ⟨J1, hJ1⟩ := hstore
 have hwfO : (openD D frm (roomOf blocks)).1.Wf := by
  unfold openD
  have := headW_wf hwf (hP.bnd (m := 2) (by omega)) frm 1 0
  split
  ·exact hwf
  ·split
   ·split <;> exact this
   ·split <;> exact hwf
 refine stA_blk hb33 hJ1.len (by decide) hJ1.one fun w35 hB35 hf35 => ?_
 have hB35 : Blk w35 b 52 x19a := by
  have : splice jz 0 x19a = x19a := splice_all hJ1.len rfl
  rw [this] at hB35
  exact hB35
 have hx35 : Ext w10 w35 := hf35.ext hx33' fun k _ e => by rw [e]; omega
 have hBq35 := hB33.fr hf35 hqb
 intro w36 hw36
 have hx36 : Ext w35 w36 := by subst hw36; exact Ext.drew _
 refine ⟨by simpa using fun h : b = q => hqb h.symm, x19a, hJ1.len, hB35.at (by rw [List.drop_zero, List.take_length]), ?_⟩
 refine ⟨_, rfl, ?_⟩
 show st1 _ _ _ _
 rw [add_plain]
 refine st1_blk (hBq35.ext hx36) (by rw [bC_len (jc_len hcl)]; decide) fun w42 hB42 hf42 => ?_
 rw [Nat.zero_add, bC_set1] at hB42
 refine ⟨_, rfl, ?_⟩
 show stA _ _ _ _ _
 rw [add_plain]
 refine stA_blk hB42 hJ1.len (by rw [bC_len (jc_len hcl)]; decide) hJ1.one fun w46 hB46 hf46 => ?_
 rw [Nat.zero_add, bC_splice (jc_len hcl) hJ1.len] at hB46
 have hfq : Fr (· = q) w36 w46 := hf42.trans hf46
 -- from the opening on
 have hxq : ∀ {v : World}, Fr (· = q) w36 v → Ext w0 v := fun hv => hv.ext (hx10.trans (hx35.trans hx36)) fun k _ e => by rw [e]; exact hq
 have hJs : ∀ {ys : List Value} {E : Dk} {M : Lg} {v : World}, JAt w33 (fun k => ¬ Foot pd bb k ∧ k ≠ q ∧ k ≠ pl2) ys E frm (roomOf blocks) M → E.Wf → Fr (· = q) w36 v → JAt v (fun k => ¬ Foot pd bb k ∧ k ≠ q ∧ k ≠ pl2) ys E frm (roomOf blocks) M := by
  rintro ys E M v ⟨cs', e, h⟩ hE hv
  exact ⟨cs', e, ((h.frJ hE hb33 hf35).ext hx36).foot hv fun k hk => hk.2.1⟩
 have hPo := play_open hP frm (roomOf blocks)
 revert hO hR hJ1 hPo hwfO
 cases hr : openD D frm (roomOf blocks) with
 | mk D' r =>
  cases r with
  | fails e =>
   rintro ⟨e1, hD10, _⟩ ⟨r1, r2, J', hJw, hJ'⟩ hJ1 hwfO hPo
   cases e1
   simp only at r1 hPo hwfO
   subst r1
   have hJ' : JAt w33 (fun k => ¬ Foot pd bb k ∧ k ≠ q ∧ k ≠ pl2) x19a D' frm (roomOf blocks) _ := hJ'
   obtain ⟨cs', ecs, hA'⟩ := id (hJs hJ' hwfO hfq)
   rw [ecs] at hB46
   have hcl' := hA'.len
   refine ⟨fun _ => ?_, fun h => absurd (nd_f h) r2⟩
   refine ⟨_, rfl, ?_⟩
   show st1 _ _ _ _
   rw [add_plain, add_plain]
   refine st1_blk hB46 (by rw [bC_len (jc_len hcl')]; decide) fun w50 hB50 hf50 => ?_
   have e12 : (bC pd none (jc cs' frm (roomOf blocks) J'.seq J'.data J'.count J'.broken)).set (0 + 2 + 10) (.bool true) = bC pd none (jc cs' frm (roomOf blocks) J'.seq J'.data J'.count true) := bC_broken hcl'
   rw [e12] at hB50
   have hfq50 := hfq.trans hf50
   refine jn_of fun k1 hk1 => ⟨fun _ => ?_, fun h => absurd h (by simp)⟩
   show k1 true _
   rw [hk1]
   refine jn_of fun k2 hk2 => ⟨fun _ => ?_, fun h => absurd h (by simp)⟩
   show k2 true _
   rw [hk2]
   rcases hp3 with ⟨_, hplq⟩ | ⟨h, _⟩
   ·refine ⟨rfl, hPo, hxq hfq50, hq, ((hD10.ext hx35).ext hx36).fr hfq50 fun k hk e => hk.2 e, none, cs', { J' with broken := true }, pl2, hB50, hA'.foot hf50 fun k hk => hk.2.1, ⟨hJw.hfrm, hJw.hroom, hJw.hseq, hJw.hdata, hJw.hcount⟩, .inr ⟨rfl, rfl, hplq⟩⟩
   ·cases h
  | is L rs =>
   rintro ⟨pl, e1, hpl, e2, hrs, hW, _⟩ ⟨r1, hJ', ho, hl⟩ hJ1 hwfO hPo
   simp only at e1 e2 hrs r1 ho hl hPo hwfO
   subst e1; subst e2; subst r1
   obtain rfl : pl = pl2 := by
    rcases hp3 with ⟨h, _⟩ | ⟨h, _⟩
    ·cases h
    ·simp only [Option.some.injEq, Addr.mk.injEq, and_true] at h
     exact h
   have hJ' : JAt w33 (fun k => ¬ Foot pd bb k ∧ k ≠ q ∧ k ≠ pl) x19a D' frm (roomOf blocks) _ := hJ'
   obtain ⟨cs', ecs, hA'⟩ := id (hJs hJ' hwfO hfq)
   rw [ecs] at hB46
   have hcl' := hA'.len
   refine ⟨fun h => absurd h (by simp), fun _ => ?_⟩
   refine jn_of fun k1 hk1 => ⟨fun _ => ?_, fun h => absurd h (by simp)⟩
   have hp46 : Parts w46 x9b rs := (((hrs.ext hx35).ext hx36).fr hfq fun k hk e => by have : k = q := e; omega).parts
   have ho35 : Own w35 w11.heap.size 9 1 x19b (txts rs) := by
    refine hf35.own (fun c hc e => ?_) ho
    have e : c.block = b := e
    rcases ho.2 with ⟨h1, _⟩ | ⟨g, cap, cur, h1, _, h4, _⟩
    ·obtain ⟨sa, l', c'⟩ := x19b
     simp only at hc
     subst hc
     simp at h1
    ·obtain ⟨sa, l', c'⟩ := x19b
     simp only at hc
     subst hc
     simp only [Value.slice.injEq, Option.some.injEq] at h1
     obtain ⟨rfl, _, _⟩ := h1
     simp only at e
     subst e
     have hb33 : w33.heap[g]? = _ := hb33
     rw [hb33] at h4
     simp at h4
   have hs46 : StrsAt w46 x19b rs := ⟨hl, (hfq.own (fun c hc e => by have := Own.ge5 ho35 c hc; have : c.block = q := e; omega) (ho35.ext hx36)).at⟩
   have hrsl : rs.length ≤ 4000000 := by
    have h5 := hW.wf.hcount
    have h6 := hW.wf.hdata
    have h7 := hW.wf.hroom
    have h8 := openD_count hr
    omega
   refine cR_of (same_ok w46 x9b x19b rs rs hp46 hs46 hrsl) ?_
   rintro x68 w69 ⟨rfl, rfl⟩
   rw [decide_eq_true rfl, hk1]
   refine ⟨rfl, hPo, hxq hfq, hq, ?_, lp pl, cs', L, pl, hB46, hA', hW.wf, .inl ⟨rfl, ?_⟩⟩
   ·exact ((hW.disk.ext hx35).ext hx36).fr hfq fun k hk e => hk.2 e
   ·obtain ⟨g, sd, hX⟩ := hW
    exact ⟨g, sd, ((hX.ext hx35).ext hx36).fr hfq fun k hk e => hk.2 e⟩
end Go.Proofs.Ytagkcbbbdlmcjaa
end

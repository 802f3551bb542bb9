/- The typed readings of the functions, and that the program meets each: written by gen.py (a program of this session). -/
import Derived.Test.YtagkcbbbdlmcjaaLiftDraw
import Derived.Test.YtagkcbbbdlmcjaaRead
set_option linter.unusedVariables false
set_option linter.unusedSimpArgs false
namespace Go.Proofs.Ytagkcbbbdlmcjaa
open Go.Lift
set_option maxRecDepth 100000 in
set_option maxHeartbeats 4000000 in
theorem s9_calls (K : Bool → World → Prop) (p0 : Int) (p1 : Int) (w : World) (h : s9 K p0 p1 w) :
    Calls Try.prog 9 #[.int .i64 p0, .int .i64 p1] w (Ret r9 K) := by
  unfold s9 at h
  refine calls_of_CW (n := 156) Try.func9 rfl rfl rfl ?_
  refine CW.seq ?_
  refine CW.region ?_
  refine RL.opS trivial rfl (OpW.assign (v := .bool false) rfl ?_)
  refine RL.nil ?_
  refine CW.seq ?_
  refine CW.seq ?_
  refine CW.region ?_
  refine RL.opS trivial rfl (OpW.callR (al := []) Try.func30 fb_30 fn_30 rfl h (fun x1 w2 h => ?_))
  refine RL.opS trivial rfl (OpW.not rfl ?_)
  refine RL.nil ?_
  obtain ⟨ha, hc⟩ := h
  refine CW.cond (b := (!x1)) rfl (fun hb3 => ?_) (fun hb3 => ?_)
  · have h := ha hb3; clear ha hc
    refine CW.seq ?_
    refine CW.region ?_
    refine RL.opS trivial rfl (OpW.assign (v := .bool false) rfl ?_)
    refine RL.nil ?_
    refine CW.ret ?_
    exact ret_intro (res1 rfl rfl) ⟨false, rfl, h⟩
  · have h := hc hb3; clear ha hc
    refine CW.skip ?_
    refine CW.seq ?_
    refine CW.region ?_
    refine RL.opS trivial rfl (OpW.move (v := .int .i64 p0) rfl ?_)
    refine RL.opS trivial rfl (OpW.callR (al := [.int .i64 p0]) Try.func15 fb_15 fn_15 rfl h (fun x4 w5 h => ?_))
    refine RL.opS trivial rfl (OpW.move (v := .tuple #[.pointer x4.1, .int .i64 x4.2]) rfl ?_)
    refine RL.opS trivial rfl (OpW.extract (v := .pointer x4.1) rfl rfl ?_)
    refine RL.opS trivial rfl (OpW.extract (v := .int .i64 x4.2) rfl rfl ?_)
    refine RL.opS trivial rfl (OpW.assign (v := .pointer x4.1) rfl ?_)
    refine RL.opS trivial rfl (OpW.assign (v := .int .i64 x4.2) rfl ?_)
    refine RL.nil ?_
    refine CW.seq ?_
    refine CW.region ?_
    refine RL.opS trivial rfl (OpW.assign (v := .pointer none) rfl ?_)
    refine RL.nil ?_
    refine CW.seq ?_
    refine CW.region ?_
    refine RL.opS trivial rfl (OpW.move (v := .pointer none) rfl ?_)
    refine RL.opS trivial rfl (OpW.move (v := .int .i64 p1) rfl ?_)
    refine RL.opS trivial rfl (OpW.callR (al := [.pointer none, .int .i64 p1]) Try.func28 fb_28 fn_28 rfl h (fun x6 w7 h => ?_))
    refine RL.opS trivial rfl (OpW.move (v := .tuple #[Sl.v x6.1, .int .i64 x6.2]) rfl ?_)
    refine RL.opS trivial rfl (OpW.extract (v := Sl.v x6.1) rfl rfl ?_)
    refine RL.opS trivial rfl (OpW.extract (v := .int .i64 x6.2) rfl rfl ?_)
    refine RL.opS trivial rfl (OpW.assign (v := Sl.v x6.1) rfl ?_)
    refine RL.opS trivial rfl (OpW.assign (v := .int .i64 x6.2) rfl ?_)
    refine RL.nil ?_
    refine CW.seq ?_
    refine CW.seq ?_
    refine CW.region ?_
    refine RL.opS trivial rfl (OpW.move (v := .int .i64 x6.2) rfl ?_)
    refine RL.opS trivial rfl (OpW.bin (k := .i64) (a := x6.2) (b := 6) (v := .bool (!decide (x6.2 = 6))) rfl rfl rfl ?_)
    refine RL.opS trivial rfl (OpW.move (v := .bool (!decide (x6.2 = 6))) rfl ?_)
    refine jn_elim h ?_; clear h; intro k275 hk276 h
    refine RL.joinAt (A := Bool) 4 (fun s10 ρ => ρ 29 = .bool s10 ∧ ρ 0 = .int .i64 p0 ∧ ρ 1 = .int .i64 p1 ∧ ρ 5 = .pointer x4.1 ∧ ρ 6 = .int .i64 x4.2 ∧ ρ 7 = .pointer none) k275 ?_ ?_
    · rintro s10 ρ w11 ⟨e12, e13, e14, e15, e16, e17⟩ h
      subst hk276
      dsimp only [List.drop]
      refine RL.opS trivial rfl (OpW.move (v := .bool s10) e12 ?_)
      refine jn_elim h ?_; clear h; intro k273 hk274 h
      refine RL.joinAt (A := Bool) 6 (fun s24 ρ => ρ 36 = .bool s24 ∧ ρ 0 = .int .i64 p0 ∧ ρ 1 = .int .i64 p1 ∧ ρ 5 = .pointer x4.1 ∧ ρ 6 = .int .i64 x4.2 ∧ ρ 7 = .pointer none) k273 ?_ ?_
      · rintro s24 ρ w25 ⟨e26, e27, e28, e29, e30, e31⟩ h
        subst hk274
        dsimp only [List.drop]
        refine RL.opS trivial rfl (OpW.move (v := .bool s24) e26 ?_)
        refine jn_elim h ?_; clear h; intro k271 hk272 h
        refine RL.joinAt (A := Bool) 4 (fun s36 ρ => ρ 41 = .bool s36 ∧ ρ 0 = .int .i64 p0 ∧ ρ 1 = .int .i64 p1 ∧ ρ 5 = .pointer x4.1 ∧ ρ 6 = .int .i64 x4.2 ∧ ρ 7 = .pointer none) k271 ?_ ?_
        · rintro s36 ρ w37 ⟨e38, e39, e40, e41, e42, e43⟩ h
          subst hk272
          dsimp only [List.drop]
          refine RL.opS trivial rfl (OpW.move (v := .bool s36) e38 ?_)
          refine jn_elim h ?_; clear h; intro k269 hk270 h
          refine RL.joinAt (A := Bool) 3 (fun s48 ρ => ρ 45 = .bool s48 ∧ ρ 0 = .int .i64 p0 ∧ ρ 1 = .int .i64 p1 ∧ ρ 5 = .pointer x4.1 ∧ ρ 6 = .int .i64 x4.2 ∧ ρ 7 = .pointer none) k269 ?_ ?_
          · rintro s48 ρ w49 ⟨e50, e51, e52, e53, e54, e55⟩ h
            subst hk270
            dsimp only [List.drop]
            refine RL.opS trivial rfl (OpW.move (v := .bool s48) e50 ?_)
            refine jn_elim h ?_; clear h; intro k267 hk268 h
            refine RL.joinAt (A := Bool) 4 (fun s60 ρ => ρ 50 = .bool s60 ∧ ρ 0 = .int .i64 p0 ∧ ρ 1 = .int .i64 p1 ∧ ρ 5 = .pointer x4.1 ∧ ρ 6 = .int .i64 x4.2 ∧ ρ 7 = .pointer none) k267 ?_ ?_
            · rintro s60 ρ w61 ⟨e62, e63, e64, e65, e66, e67⟩ h
              subst hk268
              dsimp only [List.drop]
              refine RL.opS trivial rfl (OpW.move (v := .bool s60) e62 ?_)
              refine jn_elim h ?_; clear h; intro k265 hk266 h
              refine RL.joinAt (A := Bool) 4 (fun s72 ρ => ρ 55 = .bool s72 ∧ ρ 0 = .int .i64 p0 ∧ ρ 1 = .int .i64 p1 ∧ ρ 5 = .pointer x4.1 ∧ ρ 6 = .int .i64 x4.2 ∧ ρ 7 = .pointer none) k265 ?_ ?_
              · rintro s72 ρ w73 ⟨e74, e75, e76, e77, e78, e79⟩ h
                subst hk266
                dsimp only [List.drop]
                refine RL.opS trivial rfl (OpW.move (v := .bool s72) e74 ?_)
                refine jn_elim h ?_; clear h; intro k263 hk264 h
                refine RL.joinAt (A := Bool) 4 (fun s84 ρ => ρ 60 = .bool s84 ∧ ρ 0 = .int .i64 p0 ∧ ρ 1 = .int .i64 p1 ∧ ρ 5 = .pointer x4.1 ∧ ρ 6 = .int .i64 x4.2 ∧ ρ 7 = .pointer none) k263 ?_ ?_
                · rintro s84 ρ w85 ⟨e86, e87, e88, e89, e90, e91⟩ h
                  subst hk264
                  dsimp only [List.drop]
                  refine RL.opS trivial rfl (OpW.move (v := .bool s84) e86 ?_)
                  refine jn_elim h ?_; clear h; intro k261 hk262 h
                  refine RL.joinAt (A := Bool) 4 (fun s96 ρ => ρ 65 = .bool s96 ∧ ρ 0 = .int .i64 p0 ∧ ρ 1 = .int .i64 p1 ∧ ρ 5 = .pointer x4.1 ∧ ρ 6 = .int .i64 x4.2 ∧ ρ 7 = .pointer none) k261 ?_ ?_
                  · rintro s96 ρ w97 ⟨e98, e99, e100, e101, e102, e103⟩ h
                    subst hk262
                    dsimp only [List.drop]
                    refine RL.opS trivial rfl (OpW.move (v := .bool s96) e98 ?_)
                    refine jn_elim h ?_; clear h; intro k259 hk260 h
                    refine RL.joinAt (A := Bool) 4 (fun s108 ρ => ρ 70 = .bool s108 ∧ ρ 0 = .int .i64 p0 ∧ ρ 1 = .int .i64 p1 ∧ ρ 5 = .pointer x4.1 ∧ ρ 6 = .int .i64 x4.2 ∧ ρ 7 = .pointer none) k259 ?_ ?_
                    · rintro s108 ρ w109 ⟨e110, e111, e112, e113, e114, e115⟩ h
                      subst hk260
                      dsimp only [List.drop]
                      refine RL.nil ?_
                      obtain ⟨ha, hc⟩ := h
                      refine CW.cond (b := s108) e110 (fun hb116 => ?_) (fun hb116 => ?_)
                      · have h := ha hb116; clear ha hc
                        refine CW.seq ?_
                        refine CW.region ?_
                        refine RL.opS trivial rfl (OpW.assign (v := .bool false) rfl ?_)
                        refine RL.nil ?_
                        refine CW.ret ?_
                        exact ret_intro (res1 rfl rfl) ⟨false, rfl, h⟩
                      · have h := hc hb116; clear ha hc
                        refine CW.skip ?_
                        refine CW.seq ?_
                        refine CW.region ?_
                        refine RL.opS trivial rfl (OpW.move (v := .pointer none) e115 ?_)
                        refine RL.opS trivial rfl (OpW.callR (al := [.pointer none, Sl.v nilSl]) Try.func37 fb_37 fn_37 rfl h (fun x117 w118 h => ?_))
                        refine RL.nil ?_
                        refine CW.seq ?_
                        refine CW.region ?_
                        refine RL.opS trivial rfl (OpW.move (v := .pointer none) e115 ?_)
                        refine RL.opS trivial rfl (OpW.buildL (vs := []) (cs := [Value.int .i64 0, Value.int .u64 0, Value.int .i64 0]) (by rfl) (fun _ => by kernel_rfl) ?_)
                        refine RL.opS trivial rfl (OpW.callR (al := [.pointer none, aggv [Value.int .i64 0, Value.int .u64 0, Value.int .i64 0]]) Try.func35 fb_35 fn_35 rfl h (fun x119 w120 h => ?_))
                        refine RL.nil ?_
                        refine CW.seq ?_
                        refine CW.seq ?_
                        refine CW.region ?_
                        refine RL.opS trivial rfl (OpW.move (v := .int .i64 p0) e111 ?_)
                        refine RL.opS trivial rfl (OpW.bin (k := .i64) (a := p0) (b := 1) (v := .bool (decide (p0 < 1))) rfl rfl rfl ?_)
                        refine RL.opS trivial rfl (OpW.move (v := .bool (decide (p0 < 1))) rfl ?_)
                        refine jn_elim h ?_; clear h; intro k257 hk258 h
                        refine RL.joinAt (A := Bool) 3 (fun s123 ρ => ρ 81 = .bool s123 ∧ ρ 0 = .int .i64 p0 ∧ ρ 1 = .int .i64 p1 ∧ ρ 5 = .pointer x4.1 ∧ ρ 6 = .int .i64 x4.2) k257 ?_ ?_
                        · rintro s123 ρ w124 ⟨e125, e126, e127, e128, e129⟩ h
                          subst hk258
                          dsimp only [List.drop]
                          refine RL.nil ?_
                          obtain ⟨ha, hc⟩ := h
                          refine CW.cond (b := s123) e125 (fun hb130 => ?_) (fun hb130 => ?_)
                          · have h := ha hb130; clear ha hc
                            refine CW.seq ?_
                            refine CW.region ?_
                            refine RL.opS trivial rfl (OpW.move (v := .pointer x4.1) e128 ?_)
                            refine RL.opS trivial rfl (OpW.ptrNil (b := x4.1.isNone) (p := x4.1) ptr_31 rfl rfl rfl ?_)
                            refine RL.opS trivial rfl (OpW.move (v := .bool (x4.1.isNone)) rfl ?_)
                            refine jn_elim h ?_; clear h; intro k136 hk137 h
                            refine RL.joinAt (A := Bool) 3 (fun s133 ρ => ρ 87 = .bool s133) k136 ?_ ?_
                            · rintro s133 ρ w134 e135 h
                              subst hk137
                              dsimp only [List.drop]
                              refine RL.opS trivial rfl (OpW.assign (v := .bool s133) e135 ?_)
                              refine RL.nil ?_
                              refine CW.ret ?_
                              exact ret_intro (res1 rfl rfl) ⟨s133, rfl, h⟩
                            · clear hk137
                              dsimp only [List.take]
                              obtain ⟨ha, hc⟩ := h
                              rcases Bool.eq_false_or_eq_true (x4.1.isNone) with hb131 | hb131
                              · have h := ha hb131; clear ha hc
                                refine RL.opS (wanted_of rfl rfl hb131) rfl (OpW.move (v := .int .i64 x4.2) e129 ?_)
                                refine RL.opS (wanted_of rfl rfl hb131) rfl (OpW.bin (k := .i64) (a := x4.2) (b := 1) (v := .bool (decide (x4.2 = 1))) rfl rfl rfl ?_)
                                refine RL.opS trivial rfl (OpW.pick (b := true) (v := .bool (decide (x4.2 = 1))) (congrArg Value.bool hb131) rfl ?_)
                                refine RL.nil ?_
                                exact ⟨(decide (x4.2 = 1)), rfl, h⟩
                              · have h := hc hb131; clear ha hc
                                refine RL.skipS (notWanted_of rfl rfl hb131) rfl ?_
                                refine RL.skipS (notWanted_of rfl rfl hb131) rfl ?_
                                refine RL.opS trivial rfl (OpW.pick (b := false) (v := .bool false) (congrArg Value.bool hb131) rfl ?_)
                                refine RL.nil ?_
                                exact ⟨false, rfl, h⟩
                          · have h := hc hb130; clear ha hc
                            refine CW.skip ?_
                            refine CW.seq ?_
                            refine CW.region ?_
                            refine RL.opS trivial rfl (OpW.move (v := .pointer x4.1) e128 ?_)
                            refine RL.opS trivial rfl (OpW.move (v := .int .i64 p1) e127 ?_)
                            refine RL.opS trivial rfl (OpW.callR (al := [.pointer x4.1, .int .i64 p1]) Try.func28 fb_28 fn_28 rfl h (fun x138 w139 h => ?_))
                            refine RL.opS trivial rfl (OpW.move (v := .tuple #[Sl.v x138.1, .int .i64 x138.2]) rfl ?_)
                            refine RL.opS trivial rfl (OpW.extract (v := Sl.v x138.1) rfl rfl ?_)
                            refine RL.opS trivial rfl (OpW.extract (v := .int .i64 x138.2) rfl rfl ?_)
                            refine RL.opS trivial rfl (OpW.assign (v := Sl.v x138.1) rfl ?_)
                            refine RL.opS trivial rfl (OpW.assign (v := .int .i64 x138.2) rfl ?_)
                            refine RL.nil ?_
                            refine CW.seq ?_
                            refine CW.seq ?_
                            refine CW.region ?_
                            refine RL.opS trivial rfl (OpW.move (v := .int .i64 p1) e127 ?_)
                            refine RL.opS trivial rfl (OpW.bin (k := .i64) (a := p1) (b := 0) (v := .bool (decide (p1 < 0))) rfl rfl rfl ?_)
                            refine RL.opS trivial rfl (OpW.move (v := .bool (decide (p1 < 0))) rfl ?_)
                            refine jn_elim h ?_; clear h; intro k255 hk256 h
                            refine RL.joinAt (A := Bool) 4 (fun s142 ρ => ρ 100 = .bool s142 ∧ ρ 1 = .int .i64 p1 ∧ ρ 5 = .pointer x4.1 ∧ ρ 6 = .int .i64 x4.2 ∧ ρ 8 = Sl.v x138.1 ∧ ρ 9 = .int .i64 x138.2) k255 ?_ ?_
                            · rintro s142 ρ w143 ⟨e144, e145, e146, e147, e148, e149⟩ h
                              subst hk256
                              dsimp only [List.drop]
                              refine RL.nil ?_
                              obtain ⟨ha, hc⟩ := h
                              refine CW.cond (b := s142) e144 (fun hb150 => ?_) (fun hb150 => ?_)
                              · have h := ha hb150; clear ha hc
                                refine CW.seq ?_
                                refine CW.region ?_
                                refine RL.opS trivial rfl (OpW.move (v := .int .i64 x4.2) e147 ?_)
                                refine RL.opS trivial rfl (OpW.bin (k := .i64) (a := x4.2) (b := 0) (v := .bool (decide (x4.2 = 0))) rfl rfl rfl ?_)
                                refine RL.opS trivial rfl (OpW.move (v := .bool (decide (x4.2 = 0))) rfl ?_)
                                refine jn_elim h ?_; clear h; intro k189 hk190 h
                                refine RL.joinAt (A := Bool) 3 (fun s153 ρ => ρ 106 = .bool s153 ∧ ρ 1 = .int .i64 p1 ∧ ρ 5 = .pointer x4.1 ∧ ρ 8 = Sl.v x138.1) k189 ?_ ?_
                                · rintro s153 ρ w154 ⟨e155, e156, e157, e158⟩ h
                                  subst hk190
                                  dsimp only [List.drop]
                                  refine RL.opS trivial rfl (OpW.move (v := .bool s153) e155 ?_)
                                  refine jn_elim h ?_; clear h; intro k187 hk188 h
                                  refine RL.joinAt (A := Bool) 4 (fun s161 ρ => ρ 111 = .bool s161 ∧ ρ 1 = .int .i64 p1 ∧ ρ 5 = .pointer x4.1) k187 ?_ ?_
                                  · rintro s161 ρ w162 ⟨e163, e164, e165⟩ h
                                    subst hk188
                                    dsimp only [List.drop]
                                    refine RL.opS trivial rfl (OpW.move (v := .bool s161) e163 ?_)
                                    refine jn_elim h ?_; clear h; intro k185 hk186 h
                                    refine RL.joinAt (A := Bool) 6 (fun s172 ρ => ρ 118 = .bool s172 ∧ ρ 5 = .pointer x4.1) k185 ?_ ?_
                                    · rintro s172 ρ w173 ⟨e174, e175⟩ h
                                      subst hk186
                                      dsimp only [List.drop]
                                      refine RL.opS trivial rfl (OpW.move (v := .bool s172) e174 ?_)
                                      refine jn_elim h ?_; clear h; intro k183 hk184 h
                                      refine RL.joinAt (A := Bool) 4 (fun s180 ρ => ρ 123 = .bool s180) k183 ?_ ?_
                                      · rintro s180 ρ w181 e182 h
                                        subst hk184
                                        dsimp only [List.drop]
                                        refine RL.opS trivial rfl (OpW.assign (v := .bool s180) e182 ?_)
                                        refine RL.nil ?_
                                        refine CW.ret ?_
                                        exact ret_intro (res1 rfl rfl) ⟨s180, rfl, h⟩
                                      · clear hk184
                                        dsimp only [List.take]
                                        obtain ⟨ha, hc⟩ := h
                                        rcases Bool.eq_false_or_eq_true s172 with hb176 | hb176
                                        · have h := ha hb176; clear ha hc
                                          refine RL.opS (wanted_of rfl rfl hb176) rfl (OpW.move (v := .pointer x4.1) e175 ?_)
                                          refine RL.opS (wanted_of rfl rfl hb176) rfl (OpW.callR (al := [.pointer x4.1]) Try.func19 fb_19 fn_19 rfl h (fun x178 w179 h => ?_))
                                          refine RL.opS (wanted_of rfl rfl hb176) rfl (OpW.bin (k := .i64) (a := x178) (b := 0) (v := .bool (decide (x178 = 0))) rfl rfl rfl ?_)
                                          refine RL.opS trivial rfl (OpW.pick (b := true) (v := .bool (decide (x178 = 0))) (congrArg Value.bool hb176) rfl ?_)
                                          refine RL.nil ?_
                                          exact ⟨(decide (x178 = 0)), rfl, h⟩
                                        · have h := hc hb176; clear ha hc
                                          refine RL.skipS (notWanted_of rfl rfl hb176) rfl ?_
                                          refine RL.skipS (notWanted_of rfl rfl hb176) rfl ?_
                                          refine RL.skipS (notWanted_of rfl rfl hb176) rfl ?_
                                          refine RL.opS trivial rfl (OpW.pick (b := false) (v := .bool false) (congrArg Value.bool hb176) rfl ?_)
                                          refine RL.nil ?_
                                          exact ⟨false, rfl, h⟩
                                    · clear hk186
                                      dsimp only [List.take]
                                      obtain ⟨ha, hc⟩ := h
                                      rcases Bool.eq_false_or_eq_true s161 with hb166 | hb166
                                      · have h := ha hb166; clear ha hc
                                        refine RL.opS (wanted_of rfl rfl hb166) rfl (OpW.move (v := .pointer x4.1) e165 ?_)
                                        refine RL.opS (wanted_of rfl rfl hb166) rfl (OpW.move (v := .int .i64 p1) e164 ?_)
                                        refine RL.opS (wanted_of rfl rfl hb166) rfl (OpW.callR (al := [.int .u8 1, str []]) Try.func32 fb_32 fn_32 rfl h (fun x168 w169 h => ?_))
                                        refine RL.opS (wanted_of rfl rfl hb166) rfl (OpW.callR (al := [.pointer x4.1, .int .i64 p1, Sl.v x168]) Try.func33 fb_33 fn_33 rfl h (fun x170 w171 h => ?_))
                                        refine RL.opS (wanted_of rfl rfl hb166) rfl (OpW.bin (k := .i64) (a := x170) (b := 2) (v := .bool (decide (x170 = 2))) rfl rfl rfl ?_)
                                        refine RL.opS trivial rfl (OpW.pick (b := true) (v := .bool (decide (x170 = 2))) (congrArg Value.bool hb166) rfl ?_)
                                        refine RL.nil ?_
                                        exact ⟨(decide (x170 = 2)), ⟨rfl, e165⟩, h⟩
                                      · have h := hc hb166; clear ha hc
                                        refine RL.skipS (notWanted_of rfl rfl hb166) rfl ?_
                                        refine RL.skipS (notWanted_of rfl rfl hb166) rfl ?_
                                        refine RL.skipS (notWanted_of rfl rfl hb166) rfl ?_
                                        refine RL.skipS (notWanted_of rfl rfl hb166) rfl ?_
                                        refine RL.skipS (notWanted_of rfl rfl hb166) rfl ?_
                                        refine RL.opS trivial rfl (OpW.pick (b := false) (v := .bool false) (congrArg Value.bool hb166) rfl ?_)
                                        refine RL.nil ?_
                                        exact ⟨false, ⟨rfl, e165⟩, h⟩
                                  · clear hk188
                                    dsimp only [List.take]
                                    obtain ⟨ha, hc⟩ := h
                                    rcases Bool.eq_false_or_eq_true s153 with hb159 | hb159
                                    · have h := ha hb159; clear ha hc
                                      refine RL.opS (wanted_of rfl rfl hb159) rfl (OpW.move (v := Sl.v x138.1) e158 ?_)
                                      refine RL.opS (wanted_of rfl rfl hb159) rfl (OpW.len (s := x138.1) slice_39 rfl ?_)
                                      refine RL.opS (wanted_of rfl rfl hb159) rfl (OpW.bin (k := .i64) (a := (x138.1.len : Int)) (b := 0) (v := .bool (decide ((x138.1.len : Int) = 0))) rfl rfl rfl ?_)
                                      refine RL.opS trivial rfl (OpW.pick (b := true) (v := .bool (decide ((x138.1.len : Int) = 0))) (congrArg Value.bool hb159) rfl ?_)
                                      refine RL.nil ?_
                                      exact ⟨(decide ((x138.1.len : Int) = 0)), ⟨rfl, e156, e157⟩, h⟩
                                    · have h := hc hb159; clear ha hc
                                      refine RL.skipS (notWanted_of rfl rfl hb159) rfl ?_
                                      refine RL.skipS (notWanted_of rfl rfl hb159) rfl ?_
                                      refine RL.skipS (notWanted_of rfl rfl hb159) rfl ?_
                                      refine RL.opS trivial rfl (OpW.pick (b := false) (v := .bool false) (congrArg Value.bool hb159) rfl ?_)
                                      refine RL.nil ?_
                                      exact ⟨false, ⟨rfl, e156, e157⟩, h⟩
                                · clear hk190
                                  dsimp only [List.take]
                                  obtain ⟨ha, hc⟩ := h
                                  rcases Bool.eq_false_or_eq_true (decide (x4.2 = 0)) with hb151 | hb151
                                  · have h := ha hb151; clear ha hc
                                    refine RL.opS (wanted_of rfl rfl hb151) rfl (OpW.move (v := .int .i64 x138.2) e149 ?_)
                                    refine RL.opS (wanted_of rfl rfl hb151) rfl (OpW.bin (k := .i64) (a := x138.2) (b := 2) (v := .bool (decide (x138.2 = 2))) rfl rfl rfl ?_)
                                    refine RL.opS trivial rfl (OpW.pick (b := true) (v := .bool (decide (x138.2 = 2))) (congrArg Value.bool hb151) rfl ?_)
                                    refine RL.nil ?_
                                    exact ⟨(decide (x138.2 = 2)), ⟨rfl, e145, e146, e148⟩, h⟩
                                  · have h := hc hb151; clear ha hc
                                    refine RL.skipS (notWanted_of rfl rfl hb151) rfl ?_
                                    refine RL.skipS (notWanted_of rfl rfl hb151) rfl ?_
                                    refine RL.opS trivial rfl (OpW.pick (b := false) (v := .bool false) (congrArg Value.bool hb151) rfl ?_)
                                    refine RL.nil ?_
                                    exact ⟨false, ⟨rfl, e145, e146, e148⟩, h⟩
                              · have h := hc hb150; clear ha hc
                                refine CW.skip ?_
                                refine CW.seq ?_
                                obtain ⟨w191, hw191_⟩ : ∃ w_, w_ = w143.drew := ⟨_, rfl⟩
                                have h := h w191 hw191_
                                have hx192 : Ext w143 w191 := by rw [hw191_]; exact Ext.drew _
                                refine CW.draws (m := 33) (listed := #[false, false, false, false, false, false, false, false, false, false, false, false, false, false, false, false, false, false, false, false, false, false, false, false, false, false, false, false, false, false, false, false, false]) mixed [0, 1, 2, 3, 4, 5, 6, 7, 8, 9, 10, 11, 12, 13, 14, 15, 16, 17, 19, 20, 21, 22, 23, 25, 26, 27, 28, 30, 31, 32] (Ext w143) rfl rfl ?_
                                rw [← hw191_]
                                refine DL.takeP (listed' := #[true, false, false, false, false, false, false, false, false, false, false, false, false, false, false, false, false, false, false, false, false, false, false, false, false, false, false, false, false, false, false, false, false]) (v := .int .i64 x4.2) 0 rfl rfl (by kernel_rfl) rfl trivial rfl (fun w_ K_ h_ => OpW.move (v := .int .i64 x4.2) e147 h_) ?_
                                refine DL.takeP (listed' := #[true, true, false, false, false, false, false, false, false, false, false, false, false, false, false, false, false, false, false, false, false, false, false, false, false, false, false, false, false, false, false, false, false]) (v := .bool (decide (x4.2 = 0))) 1 rfl rfl (by kernel_rfl) rfl trivial rfl (fun w_ K_ h_ => OpW.bin (k := .i64) (a := x4.2) (b := 0) (v := .bool (decide (x4.2 = 0))) rfl rfl rfl h_) ?_
                                refine DL.takeP (listed' := #[true, true, true, false, false, false, false, false, false, false, false, false, false, false, false, false, false, false, false, false, false, false, false, false, false, false, false, false, false, false, false, false, false]) (v := .bool (decide (x4.2 = 0))) 2 rfl rfl (by kernel_rfl) rfl trivial rfl (fun w_ K_ h_ => OpW.move (v := .bool (decide (x4.2 = 0))) rfl h_) ?_
                                refine jn_elim h ?_; clear h; intro k253 hk254 h
                                refine DL.cutS (A := Bool) (fun s195 ρ => ρ 129 = .bool s195 ∧ ρ 1 = .int .i64 p1 ∧ ρ 5 = .pointer x4.1 ∧ ρ 8 = Sl.v x138.1) k253 27 #[true, true, true, true, true, true, false, false, false, false, false, false, false, false, false, false, false, false, false, false, false, false, false, false, false, false, false, false, false, false, false, false, false] ?_ ?_
                                · rintro s195 ρ w196 ⟨e198, e199, e200, e201⟩ hx197 h
                                  subst hk254
                                  refine DL.takeP (listed' := #[true, true, true, true, true, true, true, false, false, false, false, false, false, false, false, false, false, false, false, false, false, false, false, false, false, false, false, false, false, false, false, false, false]) (v := .bool s195) 6 rfl rfl (by kernel_rfl) rfl trivial rfl (fun w_ K_ h_ => OpW.move (v := .bool s195) e198 h_) ?_
                                  refine jn_elim h ?_; clear h; intro k251 hk252 h
                                  refine DL.cut (A := Bool) (fun s211 ρ => ρ 136 = .bool s211 ∧ ρ 1 = .int .i64 p1 ∧ ρ 5 = .pointer x4.1 ∧ ρ 8 = Sl.v x138.1) k251 20 #[true, true, true, true, true, true, true, true, true, true, true, true, true, false, false, false, false, false, false, false, false, false, false, false, false, false, false, false, false, false, false, false, false] ?_ ?_
                                  · rintro s211 ρ w212 ⟨e214, e215, e216, e217⟩ h
                                    subst hk252
                                    refine DL.takeP (listed' := #[true, true, true, true, true, true, true, true, true, true, true, true, true, true, false, false, false, false, false, false, false, false, false, false, false, false, false, false, false, false, false, false, false]) (v := .bool s211) 13 rfl rfl (by kernel_rfl) rfl trivial rfl (fun w_ K_ h_ => OpW.move (v := .bool s211) e214 h_) ?_
                                    refine jn_elim h ?_; clear h; intro k249 hk250 h
                                    refine DL.cut (A := Bool) (fun s222 ρ => ρ 144 = .bool s222 ∧ ρ 1 = .int .i64 p1 ∧ ρ 5 = .pointer x4.1) k249 12 #[true, true, true, true, true, true, true, true, true, true, true, true, true, true, true, true, true, true, true, true, true, false, false, false, false, false, false, false, false, false, false, false, false] ?_ ?_
                                    · rintro s222 ρ w223 ⟨e225, e226, e227⟩ h
                                      subst hk250
                                      refine DL.takeP (listed' := #[true, true, true, true, true, true, true, true, true, true, true, true, true, true, true, true, true, true, true, true, true, true, false, false, false, false, false, false, false, false, false, false, false]) (v := .bool s222) 21 rfl rfl (by kernel_rfl) rfl trivial rfl (fun w_ K_ h_ => OpW.move (v := .bool s222) e225 h_) ?_
                                      refine jn_elim h ?_; clear h; intro k247 hk248 h
                                      refine DL.cut (A := Bool) (fun s232 ρ => ρ 150 = .bool s232 ∧ ρ 5 = .pointer x4.1) k247 6 #[true, true, true, true, true, true, true, true, true, true, true, true, true, true, true, true, true, true, true, true, true, true, true, true, true, true, true, false, false, false, false, false, false] ?_ ?_
                                      · rintro s232 ρ w233 ⟨e235, e236⟩ h
                                        subst hk248
                                        refine DL.takeP (listed' := #[true, true, true, true, true, true, true, true, true, true, true, true, true, true, true, true, true, true, true, true, true, true, true, true, true, true, true, true, false, false, false, false, false]) (v := .bool s232) 27 rfl rfl (by kernel_rfl) rfl trivial rfl (fun w_ K_ h_ => OpW.move (v := .bool s232) e235 h_) ?_
                                        refine jn_elim h ?_; clear h; intro k245 hk246 h
                                        refine DL.cut (A := Bool) (fun s241 ρ => ρ 155 = .bool s241) k245 1 #[true, true, true, true, true, true, true, true, true, true, true, true, true, true, true, true, true, true, true, true, true, true, true, true, true, true, true, true, true, true, true, true, false] ?_ ?_
                                        · rintro s241 ρ w242 e244 h
                                          subst hk246
                                          refine DL.takeP (listed' := #[true, true, true, true, true, true, true, true, true, true, true, true, true, true, true, true, true, true, true, true, true, true, true, true, true, true, true, true, true, true, true, true, true]) (v := .bool s241) 32 rfl rfl (by kernel_rfl) rfl trivial rfl (fun w_ K_ h_ => OpW.assign (v := .bool s241) e244 h_) ?_
                                          refine DL.done (by kernel_rfl) ?_
                                          refine CW.ret ?_
                                          exact ret_intro (res1 rfl rfl) ⟨s241, rfl, h⟩
                                        · intro hJJ237; clear hk246
                                          obtain ⟨ha, hc⟩ := h
                                          rcases Bool.eq_false_or_eq_true s232 with hb238 | hb238
                                          · have h := ha hb238; clear ha hc
                                            refine DL.takeP (listed' := #[true, true, true, true, true, true, true, true, true, true, true, true, true, true, true, true, true, true, true, true, true, true, true, true, true, true, true, true, true, false, false, false, false]) (v := .pointer x4.1) 28 rfl rfl (by kernel_rfl) rfl (wanted_of rfl rfl hb238) rfl (fun w_ K_ h_ => OpW.move (v := .pointer x4.1) e236 h_) ?_
                                            refine DL.execS (listed' := #[true, true, true, true, true, true, true, true, true, true, true, true, true, true, true, true, true, true, true, true, true, true, true, true, true, true, true, true, true, true, false, false, false]) 29 rfl (by kernel_rfl) rfl (wanted_of rfl rfl hb238) rfl (OpW.callR (al := [.pointer x4.1]) Try.func19 fb_19 fn_19 rfl h (fun x239 w240 h => ?_))
                                            refine ⟨(fun h_ => absurd h_ (by decide)), ?_⟩
                                            refine DL.takeP (listed' := #[true, true, true, true, true, true, true, true, true, true, true, true, true, true, true, true, true, true, true, true, true, true, true, true, true, true, true, true, true, true, true, false, false]) (v := .bool (decide (x239 = 0))) 30 rfl rfl (by kernel_rfl) rfl (wanted_of rfl rfl hb238) rfl (fun w_ K_ h_ => OpW.bin (k := .i64) (a := x239) (b := 0) (v := .bool (decide (x239 = 0))) rfl rfl rfl h_) ?_
                                            refine DL.takeP (listed' := #[true, true, true, true, true, true, true, true, true, true, true, true, true, true, true, true, true, true, true, true, true, true, true, true, true, true, true, true, true, true, true, true, false]) (v := .bool (decide (x239 = 0))) 31 rfl rfl (by kernel_rfl) rfl trivial rfl (fun w_ K_ h_ => OpW.pick (b := true) (v := .bool (decide (x239 = 0))) (congrArg Value.bool hb238) rfl h_) ?_
                                            exact hJJ237 _ _ ⟨(decide (x239 = 0)), rfl, h⟩
                                          · have h := hc hb238; clear ha hc
                                            refine DL.skipP (listed' := #[true, true, true, true, true, true, true, true, true, true, true, true, true, true, true, true, true, true, true, true, true, true, true, true, true, true, true, true, true, false, false, false, false]) 28 rfl (by kernel_rfl) rfl (notWanted_of rfl rfl hb238) rfl ?_
                                            refine DL.skipX (listed' := #[true, true, true, true, true, true, true, true, true, true, true, true, true, true, true, true, true, true, true, true, true, true, true, true, true, true, true, true, true, true, false, false, false]) 29 rfl (by kernel_rfl) rfl (notWanted_of rfl rfl hb238) rfl ?_
                                            refine DL.skipP (listed' := #[true, true, true, true, true, true, true, true, true, true, true, true, true, true, true, true, true, true, true, true, true, true, true, true, true, true, true, true, true, true, true, false, false]) 30 rfl (by kernel_rfl) rfl (notWanted_of rfl rfl hb238) rfl ?_
                                            refine DL.takeP (listed' := #[true, true, true, true, true, true, true, true, true, true, true, true, true, true, true, true, true, true, true, true, true, true, true, true, true, true, true, true, true, true, true, true, false]) (v := .bool false) 31 rfl rfl (by kernel_rfl) rfl trivial rfl (fun w_ K_ h_ => OpW.pick (b := false) (v := .bool false) (congrArg Value.bool hb238) rfl h_) ?_
                                            exact hJJ237 _ _ ⟨false, rfl, h⟩
                                      · intro hJJ228; clear hk248
                                        obtain ⟨ha, hc⟩ := h
                                        rcases Bool.eq_false_or_eq_true s222 with hb229 | hb229
                                        · have h := ha hb229; clear ha hc
                                          refine DL.takeP (listed' := #[true, true, true, true, true, true, true, true, true, true, true, true, true, true, true, true, true, true, true, true, true, true, true, false, false, false, false, false, false, false, false, false, false]) (v := .pointer x4.1) 22 rfl rfl (by kernel_rfl) rfl (wanted_of rfl rfl hb229) rfl (fun w_ K_ h_ => OpW.move (v := .pointer x4.1) e227 h_) ?_
                                          refine DL.takeP (listed' := #[true, true, true, true, true, true, true, true, true, true, true, true, true, true, true, true, true, true, true, true, true, true, true, true, false, false, false, false, false, false, false, false, false]) (v := .int .i64 p1) 23 rfl rfl (by kernel_rfl) rfl (wanted_of rfl rfl hb229) rfl (fun w_ K_ h_ => OpW.move (v := .int .i64 p1) e226 h_) ?_
                                          refine DL.execS (listed' := #[true, true, true, true, true, true, true, true, true, true, true, true, true, true, true, true, true, true, true, true, true, true, true, true, true, false, false, false, false, false, false, false, false]) 24 rfl (by kernel_rfl) rfl (wanted_of rfl rfl hb229) rfl (OpW.callR (al := [.pointer x4.1, .int .i64 p1, Sl.v nilSl]) Try.func33 fb_33 fn_33 rfl h (fun x230 w231 h => ?_))
                                          refine ⟨(fun h_ => absurd h_ (by decide)), ?_⟩
                                          refine DL.takeP (listed' := #[true, true, true, true, true, true, true, true, true, true, true, true, true, true, true, true, true, true, true, true, true, true, true, true, true, true, false, false, false, false, false, false, false]) (v := .bool (decide (x230 = 1))) 25 rfl rfl (by kernel_rfl) rfl (wanted_of rfl rfl hb229) rfl (fun w_ K_ h_ => OpW.bin (k := .i64) (a := x230) (b := 1) (v := .bool (decide (x230 = 1))) rfl rfl rfl h_) ?_
                                          refine DL.takeP (listed' := #[true, true, true, true, true, true, true, true, true, true, true, true, true, true, true, true, true, true, true, true, true, true, true, true, true, true, true, false, false, false, false, false, false]) (v := .bool (decide (x230 = 1))) 26 rfl rfl (by kernel_rfl) rfl trivial rfl (fun w_ K_ h_ => OpW.pick (b := true) (v := .bool (decide (x230 = 1))) (congrArg Value.bool hb229) rfl h_) ?_
                                          exact hJJ228 _ _ ⟨(decide (x230 = 1)), ⟨rfl, e227⟩, h⟩
                                        · have h := hc hb229; clear ha hc
                                          refine DL.skipP (listed' := #[true, true, true, true, true, true, true, true, true, true, true, true, true, true, true, true, true, true, true, true, true, true, true, false, false, false, false, false, false, false, false, false, false]) 22 rfl (by kernel_rfl) rfl (notWanted_of rfl rfl hb229) rfl ?_
                                          refine DL.skipP (listed' := #[true, true, true, true, true, true, true, true, true, true, true, true, true, true, true, true, true, true, true, true, true, true, true, true, false, false, false, false, false, false, false, false, false]) 23 rfl (by kernel_rfl) rfl (notWanted_of rfl rfl hb229) rfl ?_
                                          refine DL.skipX (listed' := #[true, true, true, true, true, true, true, true, true, true, true, true, true, true, true, true, true, true, true, true, true, true, true, true, true, false, false, false, false, false, false, false, false]) 24 rfl (by kernel_rfl) rfl (notWanted_of rfl rfl hb229) rfl ?_
                                          refine DL.skipP (listed' := #[true, true, true, true, true, true, true, true, true, true, true, true, true, true, true, true, true, true, true, true, true, true, true, true, true, true, false, false, false, false, false, false, false]) 25 rfl (by kernel_rfl) rfl (notWanted_of rfl rfl hb229) rfl ?_
                                          refine DL.takeP (listed' := #[true, true, true, true, true, true, true, true, true, true, true, true, true, true, true, true, true, true, true, true, true, true, true, true, true, true, true, false, false, false, false, false, false]) (v := .bool false) 26 rfl rfl (by kernel_rfl) rfl trivial rfl (fun w_ K_ h_ => OpW.pick (b := false) (v := .bool false) (congrArg Value.bool hb229) rfl h_) ?_
                                          exact hJJ228 _ _ ⟨false, ⟨rfl, e227⟩, h⟩
                                    · intro hJJ218; clear hk250
                                      obtain ⟨ha, hc⟩ := h
                                      rcases Bool.eq_false_or_eq_true s211 with hb219 | hb219
                                      · have h := ha hb219; clear ha hc
                                        refine DL.takeP (listed' := #[true, true, true, true, true, true, true, true, true, true, true, true, true, true, true, false, false, false, false, false, false, false, false, false, false, false, false, false, false, false, false, false, false]) (v := .pointer x4.1) 14 rfl rfl (by kernel_rfl) rfl (wanted_of rfl rfl hb219) rfl (fun w_ K_ h_ => OpW.move (v := .pointer x4.1) e216 h_) ?_
                                        refine DL.takeP (listed' := #[true, true, true, true, true, true, true, true, true, true, true, true, true, true, true, true, false, false, false, false, false, false, false, false, false, false, false, false, false, false, false, false, false]) (v := .int .i64 p1) 15 rfl rfl (by kernel_rfl) rfl (wanted_of rfl rfl hb219) rfl (fun w_ K_ h_ => OpW.move (v := .int .i64 p1) e215 h_) ?_
                                        refine DL.takeP (listed' := #[true, true, true, true, true, true, true, true, true, true, true, true, true, true, true, true, true, false, false, false, false, false, false, false, false, false, false, false, false, false, false, false, false]) (v := Sl.v x138.1) 16 rfl rfl (by kernel_rfl) rfl (wanted_of rfl rfl hb219) rfl (fun w_ K_ h_ => OpW.move (v := Sl.v x138.1) e217 h_) ?_
                                        obtain ⟨⟨h1, h2⟩, h⟩ := h
                                        refine DL.takeP (listed' := #[true, true, true, true, true, true, true, true, true, true, true, true, true, true, true, true, true, true, false, false, false, false, false, false, false, false, false, false, false, false, false, false, false]) (v := Sl.v (x138.1.cut 1 1 (x138.1.len : Int) x138.1.cap)) 17 rfl rfl (by kernel_rfl) rfl (wanted_of rfl rfl hb219) rfl (fun w_ K_ h_ => OpW.sliceSl (l := 1) (h := (x138.1.len : Int)) slice_39 rfl ⟨_, rfl⟩ rfl h1 h2 (.inl rfl) h_) ?_
                                        refine DL.execS (listed' := #[true, true, true, true, true, true, true, true, true, true, true, true, true, true, true, true, true, true, true, false, false, false, false, false, false, false, false, false, false, false, false, false, false]) 18 rfl (by kernel_rfl) rfl (wanted_of rfl rfl hb219) rfl (OpW.callR (al := [.pointer x4.1, .int .i64 p1, Sl.v (x138.1.cut 1 1 (x138.1.len : Int) x138.1.cap)]) Try.func33 fb_33 fn_33 rfl h (fun x220 w221 h => ?_))
                                        refine ⟨(fun h_ => absurd h_ (by decide)), ?_⟩
                                        refine DL.takeP (listed' := #[true, true, true, true, true, true, true, true, true, true, true, true, true, true, true, true, true, true, true, true, false, false, false, false, false, false, false, false, false, false, false, false, false]) (v := .bool (decide (x220 = 1))) 19 rfl rfl (by kernel_rfl) rfl (wanted_of rfl rfl hb219) rfl (fun w_ K_ h_ => OpW.bin (k := .i64) (a := x220) (b := 1) (v := .bool (decide (x220 = 1))) rfl rfl rfl h_) ?_
                                        refine DL.takeP (listed' := #[true, true, true, true, true, true, true, true, true, true, true, true, true, true, true, true, true, true, true, true, true, false, false, false, false, false, false, false, false, false, false, false, false]) (v := .bool (decide (x220 = 1))) 20 rfl rfl (by kernel_rfl) rfl trivial rfl (fun w_ K_ h_ => OpW.pick (b := true) (v := .bool (decide (x220 = 1))) (congrArg Value.bool hb219) rfl h_) ?_
                                        exact hJJ218 _ _ ⟨(decide (x220 = 1)), ⟨rfl, e215, e216⟩, h⟩
                                      · have h := hc hb219; clear ha hc
                                        refine DL.skipP (listed' := #[true, true, true, true, true, true, true, true, true, true, true, true, true, true, true, false, false, false, false, false, false, false, false, false, false, false, false, false, false, false, false, false, false]) 14 rfl (by kernel_rfl) rfl (notWanted_of rfl rfl hb219) rfl ?_
                                        refine DL.skipP (listed' := #[true, true, true, true, true, true, true, true, true, true, true, true, true, true, true, true, false, false, false, false, false, false, false, false, false, false, false, false, false, false, false, false, false]) 15 rfl (by kernel_rfl) rfl (notWanted_of rfl rfl hb219) rfl ?_
                                        refine DL.skipP (listed' := #[true, true, true, true, true, true, true, true, true, true, true, true, true, true, true, true, true, false, false, false, false, false, false, false, false, false, false, false, false, false, false, false, false]) 16 rfl (by kernel_rfl) rfl (notWanted_of rfl rfl hb219) rfl ?_
                                        refine DL.skipP (listed' := #[true, true, true, true, true, true, true, true, true, true, true, true, true, true, true, true, true, true, false, false, false, false, false, false, false, false, false, false, false, false, false, false, false]) 17 rfl (by kernel_rfl) rfl (notWanted_of rfl rfl hb219) rfl ?_
                                        refine DL.skipX (listed' := #[true, true, true, true, true, true, true, true, true, true, true, true, true, true, true, true, true, true, true, false, false, false, false, false, false, false, false, false, false, false, false, false, false]) 18 rfl (by kernel_rfl) rfl (notWanted_of rfl rfl hb219) rfl ?_
                                        refine DL.skipP (listed' := #[true, true, true, true, true, true, true, true, true, true, true, true, true, true, true, true, true, true, true, true, false, false, false, false, false, false, false, false, false, false, false, false, false]) 19 rfl (by kernel_rfl) rfl (notWanted_of rfl rfl hb219) rfl ?_
                                        refine DL.takeP (listed' := #[true, true, true, true, true, true, true, true, true, true, true, true, true, true, true, true, true, true, true, true, true, false, false, false, false, false, false, false, false, false, false, false, false]) (v := .bool false) 20 rfl rfl (by kernel_rfl) rfl trivial rfl (fun w_ K_ h_ => OpW.pick (b := false) (v := .bool false) (congrArg Value.bool hb219) rfl h_) ?_
                                        exact hJJ218 _ _ ⟨false, ⟨rfl, e215, e216⟩, h⟩
                                  · intro hJJ202; clear hk252
                                    obtain ⟨ha, hc⟩ := h
                                    rcases Bool.eq_false_or_eq_true s195 with hb203 | hb203
                                    · have h := ha hb203; clear ha hc
                                      refine DL.takeP (listed' := #[true, true, true, true, true, true, true, true, false, false, false, false, false, false, false, false, false, false, false, false, false, false, false, false, false, false, false, false, false, false, false, false, false]) (v := Sl.v x138.1) 7 rfl rfl (by kernel_rfl) rfl (wanted_of rfl rfl hb203) rfl (fun w_ K_ h_ => OpW.move (v := Sl.v x138.1) e201 h_) ?_
                                      obtain ⟨x204, h1, h2, h⟩ := h
                                      refine DL.takeK (listed' := #[true, true, true, true, true, true, true, true, true, false, false, false, false, false, false, false, false, false, false, false, false, false, false, false, false, false, false, false, false, false, false, false, false]) (v := str x204) 8 rfl rfl (by kernel_rfl) (by kernel_rfl) rfl (wanted_of rfl rfl hb203) rfl hx197 (fun w_ hS_ K_ h_ => OpW.b2s bsl_39 str_9 rfl h1 (hS_.atO h2) h_) ?_
                                      obtain ⟨h1, h2, h3, h4, h⟩ := h
                                      obtain ⟨b205, hb205_⟩ : ∃ b_, b_ = w196.heap.size := ⟨_, rfl⟩
                                      obtain ⟨w206, hw206_⟩ : ∃ w_, w_ = w196.alloc (.cells (List.replicate (Int.toNat 512 * 1) (Value.int .u8 0)).toArray 5) := ⟨_, rfl⟩
                                      have h := h b205 w206 hb205_ hw206_
                                      obtain ⟨x207, hx207_⟩ : ∃ s_ : Sl, s_ = ⟨some ⟨b205, 0, none⟩, Int.toNat 512, Int.toNat 512⟩ := ⟨_, rfl⟩
                                      rw [← hx207_] at h
                                      refine DL.execS (listed' := #[true, true, true, true, true, true, true, true, true, true, false, false, false, false, false, false, false, false, false, false, false, false, false, false, false, false, false, false, false, false, false, false, false]) 9 rfl (by kernel_rfl) rfl (wanted_of rfl rfl hb203) rfl (OpW.makeSliceE mk_39 (by decide) rfl rfl h1 h2 h3 h4 hb205_ hw206_ hx207_ ?_)
                                      have hx208 : Ext w143 w206 := by rw [hw206_]; exact Ext.alloc hx197 _
                                      refine ⟨(fun _ _ => hx208), ?_⟩
                                      obtain ⟨x209, h1, h2, h⟩ := h
                                      refine DL.execS (listed' := #[true, true, true, true, true, true, true, true, true, true, true, false, false, false, false, false, false, false, false, false, false, false, false, false, false, false, false, false, false, false, false, false, false]) 10 rfl (by kernel_rfl) rfl (wanted_of rfl rfl hb203) rfl (OpW.b2s bsl_39 str_9 rfl h1 h2 ?_)
                                      refine ⟨(fun _ _ => hx208), ?_⟩
                                      refine DL.takeP (listed' := #[true, true, true, true, true, true, true, true, true, true, true, true, false, false, false, false, false, false, false, false, false, false, false, false, false, false, false, false, false, false, false, false, false]) (v := .bool (decide (x204 = x209))) 11 rfl rfl (by kernel_rfl) rfl (wanted_of rfl rfl hb203) rfl (fun w_ K_ h_ => OpW.strCmp (b := decide (x204 = x209)) rfl rfl rfl h_) ?_
                                      refine DL.takeP (listed' := #[true, true, true, true, true, true, true, true, true, true, true, true, true, false, false, false, false, false, false, false, false, false, false, false, false, false, false, false, false, false, false, false, false]) (v := .bool (decide (x204 = x209))) 12 rfl rfl (by kernel_rfl) rfl trivial rfl (fun w_ K_ h_ => OpW.pick (b := true) (v := .bool (decide (x204 = x209))) (congrArg Value.bool hb203) rfl h_) ?_
                                      exact hJJ202 _ _ ⟨(decide (x204 = x209)), ⟨rfl, e199, e200, e201⟩, h⟩
                                    · have h := hc hb203; clear ha hc
                                      refine DL.skipP (listed' := #[true, true, true, true, true, true, true, true, false, false, false, false, false, false, false, false, false, false, false, false, false, false, false, false, false, false, false, false, false, false, false, false, false]) 7 rfl (by kernel_rfl) rfl (notWanted_of rfl rfl hb203) rfl ?_
                                      refine DL.skipP (listed' := #[true, true, true, true, true, true, true, true, true, false, false, false, false, false, false, false, false, false, false, false, false, false, false, false, false, false, false, false, false, false, false, false, false]) 8 rfl (by kernel_rfl) rfl (notWanted_of rfl rfl hb203) rfl ?_
                                      refine DL.skipX (listed' := #[true, true, true, true, true, true, true, true, true, true, false, false, false, false, false, false, false, false, false, false, false, false, false, false, false, false, false, false, false, false, false, false, false]) 9 rfl (by kernel_rfl) rfl (notWanted_of rfl rfl hb203) rfl ?_
                                      refine DL.skipX (listed' := #[true, true, true, true, true, true, true, true, true, true, true, false, false, false, false, false, false, false, false, false, false, false, false, false, false, false, false, false, false, false, false, false, false]) 10 rfl (by kernel_rfl) rfl (notWanted_of rfl rfl hb203) rfl ?_
                                      refine DL.skipP (listed' := #[true, true, true, true, true, true, true, true, true, true, true, true, false, false, false, false, false, false, false, false, false, false, false, false, false, false, false, false, false, false, false, false, false]) 11 rfl (by kernel_rfl) rfl (notWanted_of rfl rfl hb203) rfl ?_
                                      refine DL.takeP (listed' := #[true, true, true, true, true, true, true, true, true, true, true, true, true, false, false, false, false, false, false, false, false, false, false, false, false, false, false, false, false, false, false, false, false]) (v := .bool false) 12 rfl rfl (by kernel_rfl) rfl trivial rfl (fun w_ K_ h_ => OpW.pick (b := false) (v := .bool false) (congrArg Value.bool hb203) rfl h_) ?_
                                      exact hJJ202 _ _ ⟨false, ⟨rfl, e199, e200, e201⟩, h⟩
                                · intro hJJ193; clear hk254
                                  obtain ⟨ha, hc⟩ := h
                                  rcases Bool.eq_false_or_eq_true (decide (x4.2 = 0)) with hb194 | hb194
                                  · have h := ha hb194; clear ha hc
                                    refine DL.takeP (listed' := #[true, true, true, true, false, false, false, false, false, false, false, false, false, false, false, false, false, false, false, false, false, false, false, false, false, false, false, false, false, false, false, false, false]) (v := .int .i64 x138.2) 3 rfl rfl (by kernel_rfl) rfl (wanted_of rfl rfl hb194) rfl (fun w_ K_ h_ => OpW.move (v := .int .i64 x138.2) e149 h_) ?_
                                    refine DL.takeP (listed' := #[true, true, true, true, true, false, false, false, false, false, false, false, false, false, false, false, false, false, false, false, false, false, false, false, false, false, false, false, false, false, false, false, false]) (v := .bool (decide (x138.2 = 0))) 4 rfl rfl (by kernel_rfl) rfl (wanted_of rfl rfl hb194) rfl (fun w_ K_ h_ => OpW.bin (k := .i64) (a := x138.2) (b := 0) (v := .bool (decide (x138.2 = 0))) rfl rfl rfl h_) ?_
                                    refine DL.takeP (listed' := #[true, true, true, true, true, true, false, false, false, false, false, false, false, false, false, false, false, false, false, false, false, false, false, false, false, false, false, false, false, false, false, false, false]) (v := .bool (decide (x138.2 = 0))) 5 rfl rfl (by kernel_rfl) rfl trivial rfl (fun w_ K_ h_ => OpW.pick (b := true) (v := .bool (decide (x138.2 = 0))) (congrArg Value.bool hb194) rfl h_) ?_
                                    exact hJJ193 _ _ ⟨(decide (x138.2 = 0)), ⟨rfl, e145, e146, e148⟩, hx192, h⟩
                                  · have h := hc hb194; clear ha hc
                                    refine DL.skipP (listed' := #[true, true, true, true, false, false, false, false, false, false, false, false, false, false, false, false, false, false, false, false, false, false, false, false, false, false, false, false, false, false, false, false, false]) 3 rfl (by kernel_rfl) rfl (notWanted_of rfl rfl hb194) rfl ?_
                                    refine DL.skipP (listed' := #[true, true, true, true, true, false, false, false, false, false, false, false, false, false, false, false, false, false, false, false, false, false, false, false, false, false, false, false, false, false, false, false, false]) 4 rfl (by kernel_rfl) rfl (notWanted_of rfl rfl hb194) rfl ?_
                                    refine DL.takeP (listed' := #[true, true, true, true, true, true, false, false, false, false, false, false, false, false, false, false, false, false, false, false, false, false, false, false, false, false, false, false, false, false, false, false, false]) (v := .bool false) 5 rfl rfl (by kernel_rfl) rfl trivial rfl (fun w_ K_ h_ => OpW.pick (b := false) (v := .bool false) (congrArg Value.bool hb194) rfl h_) ?_
                                    exact hJJ193 _ _ ⟨false, ⟨rfl, e145, e146, e148⟩, hx192, h⟩
                            · clear hk256
                              dsimp only [List.take]
                              obtain ⟨ha, hc⟩ := h
                              rcases Bool.eq_false_or_eq_true (decide (p1 < 0)) with hb140 | hb140
                              · have h := ha hb140; clear ha hc
                                refine RL.skipS (notWanted_of rfl rfl hb140) rfl ?_
                                refine RL.skipS (notWanted_of rfl rfl hb140) rfl ?_
                                refine RL.skipS (notWanted_of rfl rfl hb140) rfl ?_
                                refine RL.opS trivial rfl (OpW.pick (b := true) (v := .bool true) (congrArg Value.bool hb140) rfl ?_)
                                refine RL.nil ?_
                                exact ⟨true, ⟨rfl, e127, e128, e129, rfl, rfl⟩, h⟩
                              · have h := hc hb140; clear ha hc
                                refine RL.opS (wanted_of rfl rfl hb140) rfl (OpW.move (v := .int .i64 p1) e127 ?_)
                                refine RL.opS (wanted_of rfl rfl hb140) rfl (OpW.move (v := .int .i64 p0) e126 ?_)
                                refine RL.opS (wanted_of rfl rfl hb140) rfl (OpW.bin (k := .i64) (a := p1) (b := p0) (v := .bool (decide (p0 ≤ p1))) rfl rfl rfl ?_)
                                refine RL.opS trivial rfl (OpW.pick (b := false) (v := .bool (decide (p0 ≤ p1))) (congrArg Value.bool hb140) rfl ?_)
                                refine RL.nil ?_
                                exact ⟨(decide (p0 ≤ p1)), ⟨rfl, e127, e128, e129, rfl, rfl⟩, h⟩
                        · clear hk258
                          dsimp only [List.take]
                          obtain ⟨ha, hc⟩ := h
                          rcases Bool.eq_false_or_eq_true (decide (p0 < 1)) with hb121 | hb121
                          · have h := ha hb121; clear ha hc
                            refine RL.skipS (notWanted_of rfl rfl hb121) rfl ?_
                            refine RL.skipS (notWanted_of rfl rfl hb121) rfl ?_
                            refine RL.opS trivial rfl (OpW.pick (b := true) (v := .bool true) (congrArg Value.bool hb121) rfl ?_)
                            refine RL.nil ?_
                            exact ⟨true, ⟨rfl, e111, e112, e113, e114⟩, h⟩
                          · have h := hc hb121; clear ha hc
                            refine RL.opS (wanted_of rfl rfl hb121) rfl (OpW.move (v := .int .i64 p0) e111 ?_)
                            refine RL.opS (wanted_of rfl rfl hb121) rfl (OpW.bin (k := .i64) (a := p0) (b := 4096) (v := .bool (decide (4096 < p0))) rfl rfl rfl ?_)
                            refine RL.opS trivial rfl (OpW.pick (b := false) (v := .bool (decide (4096 < p0))) (congrArg Value.bool hb121) rfl ?_)
                            refine RL.nil ?_
                            exact ⟨(decide (4096 < p0)), ⟨rfl, e111, e112, e113, e114⟩, h⟩
                    · clear hk260
                      dsimp only [List.take]
                      obtain ⟨ha, hc⟩ := h
                      rcases Bool.eq_false_or_eq_true s96 with hb104 | hb104
                      · have h := ha hb104; clear ha hc
                        refine RL.skipS (notWanted_of rfl rfl hb104) rfl ?_
                        refine RL.skipS (notWanted_of rfl rfl hb104) rfl ?_
                        refine RL.skipS (notWanted_of rfl rfl hb104) rfl ?_
                        refine RL.opS trivial rfl (OpW.pick (b := true) (v := .bool true) (congrArg Value.bool hb104) rfl ?_)
                        refine RL.nil ?_
                        exact ⟨true, ⟨rfl, e99, e100, e101, e102, e103⟩, h⟩
                      · have h := hc hb104; clear ha hc
                        refine RL.opS (wanted_of rfl rfl hb104) rfl (OpW.move (v := .pointer none) e103 ?_)
                        refine RL.opS (wanted_of rfl rfl hb104) rfl (OpW.callR (al := [.pointer none]) Try.func36 fb_36 fn_36 rfl h (fun x106 w107 h => ?_))
                        refine RL.opS (wanted_of rfl rfl hb104) rfl (OpW.ptrNil (b := !x106.isNone) (p := x106) ptr_31 rfl rfl rfl ?_)
                        refine RL.opS trivial rfl (OpW.pick (b := false) (v := .bool (!x106.isNone)) (congrArg Value.bool hb104) rfl ?_)
                        refine RL.nil ?_
                        exact ⟨(!x106.isNone), ⟨rfl, e99, e100, e101, e102, e103⟩, h⟩
                  · clear hk262
                    dsimp only [List.take]
                    obtain ⟨ha, hc⟩ := h
                    rcases Bool.eq_false_or_eq_true s84 with hb92 | hb92
                    · have h := ha hb92; clear ha hc
                      refine RL.skipS (notWanted_of rfl rfl hb92) rfl ?_
                      refine RL.skipS (notWanted_of rfl rfl hb92) rfl ?_
                      refine RL.skipS (notWanted_of rfl rfl hb92) rfl ?_
                      refine RL.opS trivial rfl (OpW.pick (b := true) (v := .bool true) (congrArg Value.bool hb92) rfl ?_)
                      refine RL.nil ?_
                      exact ⟨true, ⟨rfl, e87, e88, e89, e90, e91⟩, h⟩
                    · have h := hc hb92; clear ha hc
                      refine RL.opS (wanted_of rfl rfl hb92) rfl (OpW.move (v := .pointer none) e91 ?_)
                      refine RL.opS (wanted_of rfl rfl hb92) rfl (OpW.callR (al := [.pointer none]) Try.func39 fb_39 fn_39 rfl h (fun x94 w95 h => ?_))
                      refine RL.opS (wanted_of rfl rfl hb92) rfl (OpW.bin (k := .i64) (a := x94) (b := 0) (v := .bool (!decide (x94 = 0))) rfl rfl rfl ?_)
                      refine RL.opS trivial rfl (OpW.pick (b := false) (v := .bool (!decide (x94 = 0))) (congrArg Value.bool hb92) rfl ?_)
                      refine RL.nil ?_
                      exact ⟨(!decide (x94 = 0)), ⟨rfl, e87, e88, e89, e90, e91⟩, h⟩
                · clear hk264
                  dsimp only [List.take]
                  obtain ⟨ha, hc⟩ := h
                  rcases Bool.eq_false_or_eq_true s72 with hb80 | hb80
                  · have h := ha hb80; clear ha hc
                    refine RL.skipS (notWanted_of rfl rfl hb80) rfl ?_
                    refine RL.skipS (notWanted_of rfl rfl hb80) rfl ?_
                    refine RL.skipS (notWanted_of rfl rfl hb80) rfl ?_
                    refine RL.opS trivial rfl (OpW.pick (b := true) (v := .bool true) (congrArg Value.bool hb80) rfl ?_)
                    refine RL.nil ?_
                    exact ⟨true, ⟨rfl, e75, e76, e77, e78, e79⟩, h⟩
                  · have h := hc hb80; clear ha hc
                    refine RL.opS (wanted_of rfl rfl hb80) rfl (OpW.move (v := .pointer none) e79 ?_)
                    refine RL.opS (wanted_of rfl rfl hb80) rfl (OpW.callR (al := [.pointer none]) Try.func19 fb_19 fn_19 rfl h (fun x82 w83 h => ?_))
                    refine RL.opS (wanted_of rfl rfl hb80) rfl (OpW.bin (k := .i64) (a := x82) (b := 0) (v := .bool (!decide (x82 = 0))) rfl rfl rfl ?_)
                    refine RL.opS trivial rfl (OpW.pick (b := false) (v := .bool (!decide (x82 = 0))) (congrArg Value.bool hb80) rfl ?_)
                    refine RL.nil ?_
                    exact ⟨(!decide (x82 = 0)), ⟨rfl, e75, e76, e77, e78, e79⟩, h⟩
              · clear hk266
                dsimp only [List.take]
                obtain ⟨ha, hc⟩ := h
                rcases Bool.eq_false_or_eq_true s60 with hb68 | hb68
                · have h := ha hb68; clear ha hc
                  refine RL.skipS (notWanted_of rfl rfl hb68) rfl ?_
                  refine RL.skipS (notWanted_of rfl rfl hb68) rfl ?_
                  refine RL.skipS (notWanted_of rfl rfl hb68) rfl ?_
                  refine RL.opS trivial rfl (OpW.pick (b := true) (v := .bool true) (congrArg Value.bool hb68) rfl ?_)
                  refine RL.nil ?_
                  exact ⟨true, ⟨rfl, e63, e64, e65, e66, e67⟩, h⟩
                · have h := hc hb68; clear ha hc
                  refine RL.opS (wanted_of rfl rfl hb68) rfl (OpW.move (v := .pointer none) e67 ?_)
                  refine RL.opS (wanted_of rfl rfl hb68) rfl (OpW.callR (al := [.pointer none]) Try.func23 fb_23 fn_23 rfl h (fun x70 w71 h => ?_))
                  refine RL.opS (wanted_of rfl rfl hb68) rfl (OpW.bin (k := .i64) (a := x70) (b := 0) (v := .bool (!decide (x70 = 0))) rfl rfl rfl ?_)
                  refine RL.opS trivial rfl (OpW.pick (b := false) (v := .bool (!decide (x70 = 0))) (congrArg Value.bool hb68) rfl ?_)
                  refine RL.nil ?_
                  exact ⟨(!decide (x70 = 0)), ⟨rfl, e63, e64, e65, e66, e67⟩, h⟩
            · clear hk268
              dsimp only [List.take]
              obtain ⟨ha, hc⟩ := h
              rcases Bool.eq_false_or_eq_true s48 with hb56 | hb56
              · have h := ha hb56; clear ha hc
                refine RL.skipS (notWanted_of rfl rfl hb56) rfl ?_
                refine RL.skipS (notWanted_of rfl rfl hb56) rfl ?_
                refine RL.skipS (notWanted_of rfl rfl hb56) rfl ?_
                refine RL.opS trivial rfl (OpW.pick (b := true) (v := .bool true) (congrArg Value.bool hb56) rfl ?_)
                refine RL.nil ?_
                exact ⟨true, ⟨rfl, e51, e52, e53, e54, e55⟩, h⟩
              · have h := hc hb56; clear ha hc
                refine RL.opS (wanted_of rfl rfl hb56) rfl (OpW.move (v := .pointer none) e55 ?_)
                refine RL.opS (wanted_of rfl rfl hb56) rfl (OpW.callR (al := [.pointer none]) Try.func38 fb_38 fn_38 rfl h (fun x58 w59 h => ?_))
                refine RL.opS (wanted_of rfl rfl hb56) rfl (OpW.not rfl ?_)
                refine RL.opS trivial rfl (OpW.pick (b := false) (v := .bool (!x58)) (congrArg Value.bool hb56) rfl ?_)
                refine RL.nil ?_
                exact ⟨(!x58), ⟨rfl, e51, e52, e53, e54, e55⟩, h⟩
          · clear hk270
            dsimp only [List.take]
            obtain ⟨ha, hc⟩ := h
            rcases Bool.eq_false_or_eq_true s36 with hb44 | hb44
            · have h := ha hb44; clear ha hc
              refine RL.skipS (notWanted_of rfl rfl hb44) rfl ?_
              refine RL.skipS (notWanted_of rfl rfl hb44) rfl ?_
              refine RL.opS trivial rfl (OpW.pick (b := true) (v := .bool true) (congrArg Value.bool hb44) rfl ?_)
              refine RL.nil ?_
              exact ⟨true, ⟨rfl, e39, e40, e41, e42, e43⟩, h⟩
            · have h := hc hb44; clear ha hc
              refine RL.opS (wanted_of rfl rfl hb44) rfl (OpW.move (v := .pointer none) e43 ?_)
              refine RL.opS (wanted_of rfl rfl hb44) rfl (OpW.callR (al := [.pointer none]) Try.func27 fb_27 fn_27 rfl h (fun x46 w47 h => ?_))
              refine RL.opS trivial rfl (OpW.pick (b := false) (v := .bool x46) (congrArg Value.bool hb44) rfl ?_)
              refine RL.nil ?_
              exact ⟨x46, ⟨rfl, e39, e40, e41, e42, e43⟩, h⟩
        · clear hk272
          dsimp only [List.take]
          obtain ⟨ha, hc⟩ := h
          rcases Bool.eq_false_or_eq_true s24 with hb32 | hb32
          · have h := ha hb32; clear ha hc
            refine RL.skipS (notWanted_of rfl rfl hb32) rfl ?_
            refine RL.skipS (notWanted_of rfl rfl hb32) rfl ?_
            refine RL.skipS (notWanted_of rfl rfl hb32) rfl ?_
            refine RL.opS trivial rfl (OpW.pick (b := true) (v := .bool true) (congrArg Value.bool hb32) rfl ?_)
            refine RL.nil ?_
            exact ⟨true, ⟨rfl, e27, e28, e29, e30, e31⟩, h⟩
          · have h := hc hb32; clear ha hc
            refine RL.opS (wanted_of rfl rfl hb32) rfl (OpW.move (v := .pointer none) e31 ?_)
            refine RL.opS (wanted_of rfl rfl hb32) rfl (OpW.callR (al := [.pointer none]) Try.func34 fb_34 fn_34 rfl h (fun x34 w35 h => ?_))
            refine RL.opS (wanted_of rfl rfl hb32) rfl (OpW.bin (k := .i64) (a := x34) (b := 6) (v := .bool (!decide (x34 = 6))) rfl rfl rfl ?_)
            refine RL.opS trivial rfl (OpW.pick (b := false) (v := .bool (!decide (x34 = 6))) (congrArg Value.bool hb32) rfl ?_)
            refine RL.nil ?_
            exact ⟨(!decide (x34 = 6)), ⟨rfl, e27, e28, e29, e30, e31⟩, h⟩
      · clear hk274
        dsimp only [List.take]
        obtain ⟨ha, hc⟩ := h
        rcases Bool.eq_false_or_eq_true s10 with hb18 | hb18
        · have h := ha hb18; clear ha hc
          refine RL.skipS (notWanted_of rfl rfl hb18) rfl ?_
          refine RL.skipS (notWanted_of rfl rfl hb18) rfl ?_
          refine RL.skipS (notWanted_of rfl rfl hb18) rfl ?_
          refine RL.skipS (notWanted_of rfl rfl hb18) rfl ?_
          refine RL.skipS (notWanted_of rfl rfl hb18) rfl ?_
          refine RL.opS trivial rfl (OpW.pick (b := true) (v := .bool true) (congrArg Value.bool hb18) rfl ?_)
          refine RL.nil ?_
          exact ⟨true, ⟨rfl, e13, e14, e15, e16, e17⟩, h⟩
        · have h := hc hb18; clear ha hc
          refine RL.opS (wanted_of rfl rfl hb18) rfl (OpW.move (v := .pointer none) e17 ?_)
          refine RL.opS (wanted_of rfl rfl hb18) rfl (OpW.move (v := .int .i64 p1) e14 ?_)
          refine RL.opS (wanted_of rfl rfl hb18) rfl (OpW.callR (al := [.int .u8 1, str []]) Try.func32 fb_32 fn_32 rfl h (fun x20 w21 h => ?_))
          refine RL.opS (wanted_of rfl rfl hb18) rfl (OpW.callR (al := [.pointer none, .int .i64 p1, Sl.v x20]) Try.func33 fb_33 fn_33 rfl h (fun x22 w23 h => ?_))
          refine RL.opS (wanted_of rfl rfl hb18) rfl (OpW.bin (k := .i64) (a := x22) (b := 6) (v := .bool (!decide (x22 = 6))) rfl rfl rfl ?_)
          refine RL.opS trivial rfl (OpW.pick (b := false) (v := .bool (!decide (x22 = 6))) (congrArg Value.bool hb18) rfl ?_)
          refine RL.nil ?_
          exact ⟨(!decide (x22 = 6)), ⟨rfl, e13, e14, e15, e16, e17⟩, h⟩
    · clear hk276
      dsimp only [List.take]
      obtain ⟨ha, hc⟩ := h
      rcases Bool.eq_false_or_eq_true (!decide (x6.2 = 6)) with hb8 | hb8
      · have h := ha hb8; clear ha hc
        refine RL.skipS (notWanted_of rfl rfl hb8) rfl ?_
        refine RL.skipS (notWanted_of rfl rfl hb8) rfl ?_
        refine RL.skipS (notWanted_of rfl rfl hb8) rfl ?_
        refine RL.opS trivial rfl (OpW.pick (b := true) (v := .bool true) (congrArg Value.bool hb8) rfl ?_)
        refine RL.nil ?_
        exact ⟨true, ⟨rfl, rfl, rfl, rfl, rfl, rfl⟩, h⟩
      · have h := hc hb8; clear ha hc
        refine RL.opS (wanted_of rfl rfl hb8) rfl (OpW.move (v := Sl.v x6.1) rfl ?_)
        refine RL.opS (wanted_of rfl rfl hb8) rfl (OpW.len (s := x6.1) slice_39 rfl ?_)
        refine RL.opS (wanted_of rfl rfl hb8) rfl (OpW.bin (k := .i64) (a := (x6.1.len : Int)) (b := 0) (v := .bool (!decide ((x6.1.len : Int) = 0))) rfl rfl rfl ?_)
        refine RL.opS trivial rfl (OpW.pick (b := false) (v := .bool (!decide ((x6.1.len : Int) = 0))) (congrArg Value.bool hb8) rfl ?_)
        refine RL.nil ?_
        exact ⟨(!decide ((x6.1.len : Int) = 0)), ⟨rfl, rfl, rfl, rfl, rfl, rfl⟩, h⟩
end Go.Proofs.Ytagkcbbbdlmcjaa

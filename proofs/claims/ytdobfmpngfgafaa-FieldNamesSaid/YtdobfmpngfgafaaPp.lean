/-
  The two primes are prime. (Printed by gen_primes.py.)
-/
import Derived.Test.YtdobfmpngfgafaaPn
namespace Go.Proofs.Ytdobfmpngfgafaa

theorem pr_107590001 : Pr 107590001 := pr_small 107590001 13 (by decide) (by decide) (by decide +kernel) (by decide)
theorem pr_7240687 : Pr 7240687 := pr_small 7240687 11 (by decide) (by decide) (by decide +kernel) (by decide)
theorem pr_96557 : Pr 96557 := pr_small 96557 8 (by decide) (by decide) (by decide +kernel) (by decide)
theorem pr_255515944373312847190720520512484175977 : Pr 255515944373312847190720520512484175977 := by
  refine pock_m 255515944373312847190720520512484175977 75220367286300824659 3396898387916374264 2 128 (by decide) (by decide) (by decide) (by decide) (by decide) (by decide +kernel) ?_
  · intro q hq hd
    rw [show 75220367286300824659 = 107590001 * 7240687 * 96557 from by decide] at hd
    rcases pr_mul hq hd with hd | hd
    rotate_left
    · obtain rfl := pr_of_pr pr_96557 hq hd
      decide +kernel
    rcases pr_mul hq hd with hd | hd
    rotate_left
    · obtain rfl := pr_of_pr pr_7240687 hq hd
      decide +kernel
    obtain rfl := pr_of_pr pr_107590001 hq hd
    decide +kernel
theorem pr_205115282021455665897114700593932402728804164701536103180137503955397371 : Pr 205115282021455665897114700593932402728804164701536103180137503955397371 := by
  refine pock_m 205115282021455665897114700593932402728804164701536103180137503955397371 255515944373312847190720520512484175977 802749442992798076634733441528810 2 237 (by decide) (by decide) (by decide) (by decide) (by decide) (by decide +kernel) ?_
  · intro q hq hd
    obtain rfl := pr_of_pr pr_255515944373312847190720520512484175977 hq hd
    decide +kernel
theorem pr_115792089237316195423570985008687907853269984665640564039457584007908834671663 : Pr 115792089237316195423570985008687907853269984665640564039457584007908834671663 := by
  refine pock_m 115792089237316195423570985008687907853269984665640564039457584007908834671663 205115282021455665897114700593932402728804164701536103180137503955397371 564522 2 256 (by decide) (by decide) (by decide) (by decide) (by decide) (by decide +kernel) ?_
  · intro q hq hd
    obtain rfl := pr_of_pr pr_205115282021455665897114700593932402728804164701536103180137503955397371 hq hd
    decide +kernel
theorem pr_545358713 : Pr 545358713 := pr_small 545358713 14 (by decide) (by decide) (by decide +kernel) (by decide)
theorem pr_305873 : Pr 305873 := pr_small 305873 9 (by decide) (by decide) (by decide +kernel) (by decide)
theorem pr_293 : Pr 293 := pr_small 293 3 (by decide) (by decide) (by decide +kernel) (by decide)
theorem pr_29047611873442575647497758179 : Pr 29047611873442575647497758179 := by
  refine pock_m 29047611873442575647497758179 48875478147084557 594318725354 2 95 (by decide) (by decide) (by decide) (by decide) (by decide) (by decide +kernel) ?_
  · intro q hq hd
    rw [show 48875478147084557 = 545358713 * 305873 * 293 from by decide] at hd
    rcases pr_mul hq hd with hd | hd
    rotate_left
    · obtain rfl := pr_of_pr pr_293 hq hd
      decide +kernel
    rcases pr_mul hq hd with hd | hd
    rotate_left
    · obtain rfl := pr_of_pr pr_305873 hq hd
      decide +kernel
    obtain rfl := pr_of_pr pr_545358713 hq hd
    decide +kernel
theorem pr_341948486974166000522343609283189 : Pr 341948486974166000522343609283189 := by
  refine pock_m 341948486974166000522343609283189 29047611873442575647497758179 11772 2 109 (by decide) (by decide) (by decide) (by decide) (by decide) (by decide +kernel) ?_
  · intro q hq hd
    obtain rfl := pr_of_pr pr_29047611873442575647497758179 hq hd
    decide +kernel
theorem pr_4681609 : Pr 4681609 := pr_small 4681609 11 (by decide) (by decide) (by decide +kernel) (by decide)
theorem pr_85831 : Pr 85831 := pr_small 85831 8 (by decide) (by decide) (by decide +kernel) (by decide)
theorem pr_107361793816595537 : Pr 107361793816595537 := by
  refine pock_m 107361793816595537 401827182079 267184 2 57 (by decide) (by decide) (by decide) (by decide) (by decide) (by decide +kernel) ?_
  · intro q hq hd
    rw [show 401827182079 = 4681609 * 85831 from by decide] at hd
    rcases pr_mul hq hd with hd | hd
    rotate_left
    · obtain rfl := pr_of_pr pr_85831 hq hd
      decide +kernel
    obtain rfl := pr_of_pr pr_4681609 hq hd
    decide +kernel
theorem pr_115792089237316195423570985008687907852837564279074904382605163141518161494337 : Pr 115792089237316195423570985008687907852837564279074904382605163141518161494337 := by
  refine pock_m 115792089237316195423570985008687907852837564279074904382605163141518161494337 36712202954417214842724336778420075919000906527493 3154049060501396119538597952 2 256 (by decide) (by decide) (by decide) (by decide) (by decide) (by decide +kernel) ?_
  · intro q hq hd
    rw [show 36712202954417214842724336778420075919000906527493 = 341948486974166000522343609283189 * 107361793816595537 from by decide] at hd
    rcases pr_mul hq hd with hd | hd
    rotate_left
    · obtain rfl := pr_of_pr pr_107361793816595537 hq hd
      decide +kernel
    obtain rfl := pr_of_pr pr_341948486974166000522343609283189 hq hd
    decide +kernel
theorem pr_PRM : ∀ p : Bool, Pr (match p with | true => 115792089237316195423570985008687907853269984665640564039457584007908834671663 | false => 115792089237316195423570985008687907852837564279074904382605163141518161494337)
  | true => pr_115792089237316195423570985008687907853269984665640564039457584007908834671663
  | false => pr_115792089237316195423570985008687907852837564279074904382605163141518161494337
end Go.Proofs.Ytdobfmpngfgafaa

/- All walks. -/
import Derived.Test.YtihhhgaaagefgaaDoorXFn0

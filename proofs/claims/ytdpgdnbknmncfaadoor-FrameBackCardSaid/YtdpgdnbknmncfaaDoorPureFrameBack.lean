/- The plain statement of FrameBack over the printed functions stands in the text that is imported. -/
import Derived.Test.YtdpgdnbknmncfaaDoorLawsFrameBack
